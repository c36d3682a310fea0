import Derived.Test.YtagembkjmnfidaaSldI
import Derived.Test.YtagembkjmnfidaaSldJ
import Derived.Test.YtagembkjmnfidaaSldP
import Derived.Test.YtagembkjmnfidaaSpecE
namespace Go.Proofs.Ml
set_option linter.unusedVariables false

theorem Same.ols {d : Int} {l r : List Chg} (h : Same d l r) : r.map (·.ol) = l.map (·.ol) ∧ r.map (·.nl) = l.map (·.nl) := by
  have key : ∀ f : Chg → Int, (∀ (c : Chg) x, f (c.up x) = f c) → r.map f = l.map f := by
    intro f hf
    apply List.ext_getElem?
    intro k
    rw [List.getElem?_map, List.getElem?_map]
    cases hk : l[k]? with
    | none =>
      rw [List.getElem?_eq_none_iff] at hk
      rw [List.getElem?_eq_none (by rw [h.1]; exact hk)]
    | some c =>
      obtain ⟨x, hx⟩ := h.2 k c hk
      rw [hx, Option.map_some, Option.map_some, hf]
  exact ⟨key _ fun _ _ => rfl, key _ fun _ _ => rfl⟩
theorem Same.sz {d : Int} {l r : List Chg} (h : Same d l r) : szO r = szO l ∧ szN r = szN l := by
  have e1 : ∀ l : List Chg, szO l = ((l.map (·.ol)).map cnt).sum := fun l => by rw [szO, List.map_map]; rfl
  have e2 : ∀ l : List Chg, szN l = ((l.map (·.nl)).map cnt).sum := fun l => by rw [szN, List.map_map]; rfl
  rw [e1, e1, e2, e2, h.ols.1, h.ols.2]
  exact ⟨rfl, rfl⟩
theorem dn_again {a b : List Int} {l x v : List Chg} (hx : Mvs (canD a b) 1 (List.range l.length).reverse l x) (hv : Mvs (canD a b) 1 (List.range x.length).reverse x v) : x = v := by
  have hs := down_stuck l.length hx (fun k hk hc => by obtain ⟨c, t, f, n, e, _⟩ := hc; rw [List.getElem?_eq_none hk] at e; cases e)
  exact (Mvs.all_stuck (fun k _ => hs k)).det hv
theorem up_again {a b : List Int} {l x v : List Chg} (hx : Mvs (canU a b) (-1) (List.range' 0 l.length) l x) (hv : Mvs (canU a b) (-1) (List.range' 0 x.length) x v) : x = v := by
  have hs := up_stuck l.length 0 hx (fun k hk => by omega)
  have hl := hx.same.1
  exact (Mvs.all_stuck (fun k hk => hs k (by have := List.mem_range'.1 hk; omega))).det hv
theorem ex_det {a b : List Int} {l x y : List Chg} (hf : fits l a b = true) (hx : Mvs (canD a b) 1 (List.range l.length).reverse l x) (hy : Mvs (canD b a) 1 (List.range (inv l).length).reverse (inv l) y) : inv x = y := by
  have h := hx.inv hf
  rw [show (inv l).length = l.length by simp [inv]] at hy
  exact h.det hy
theorem rng_rev (n : Nat) : (List.range' 0 n).map (fun k => n - 1 - k) = (List.range n).reverse := by
  apply List.ext_getElem
  · simp
  · intro i h1 h2
    simp
theorem mi_det {a b : List Int} {l x y : List Chg} (hf : fits l a b = true) (hx : Mvs (canU a b) (-1) (List.range' 0 l.length) l x) (hy : Mvs (canD a.reverse b.reverse) 1 (List.range (turn a.length b.length l).length).reverse (turn a.length b.length l) y) : turn a.length b.length x = y := by
  have h := hx.turn hf (fun k hk => by have := List.mem_range'.1 hk; omega)
  rw [rng_rev] at h
  rw [turn_length] at hy
  exact h.det hy
theorem fits_len {l : List Chg} {a b : List Int} (h : fits l a b = true) : l.length ≤ 9000 ∧ a.length ≤ 4096 ∧ b.length ≤ 4096 := by
  have hv := (fits_iff.1 h).1
  have h1 := valid_iff.1 hv
  have h2 := (valid_val hv).length
  exact ⟨by omega, by omega, by omega⟩
end Go.Proofs.Ml
namespace Go.Proofs.Ytagembkjmnfidaa
open Go.RowKit
open Go.Proofs.Ml
set_option linter.unusedVariables false

/-- Down, Up at a script that fits. -/
def SlOk (can : List Chg → Nat → Prop) (d : Int) (ks : List Nat) (w : World) (l : List Chg) (a b : List Int) (e : Ending) (w' : World) : Prop :=
  ∃ (r : List Chg) (A : Option Addr) (cp : Nat), e = .returned (.tuple #[.slice A r.length cp, .int .i64 0]) ∧ Mvs can d ks l r ∧ fits r a b = true ∧ Rd w' (.slice A r.length cp) 4 r.length (chVals r) ∧ r.length = l.length ∧ Below w.heap.size w w'
theorem SlRet.calls {f : Nat} {args : Array Value} {can : List Chg → Nat → Prop} {d : Int} {ks : List Nat} {w : World} {l : List Chg} {a b : List Int} (h : Calls Try.prog f args w (SlRet can d ks w l a b)) (hf : fits l a b = true) : Calls Try.prog f args w (SlOk can d ks w l a b) := by
  refine h.mono ?_
  rintro e w' (⟨h0, _⟩ | ⟨_, r, v, rfl, hm, hr, ho, hb⟩)
  · rw [hf] at h0; cases h0
  · obtain ⟨A, c, rfl, _⟩ := own_open ho
    exact ⟨r, A, c, rfl, hm, hr, Rd.of_own ho, hm.same.1, hb⟩

/-- Room's numbers at a script that fits. -/
def RmIs (l : List Chg) (a b : List Int) (k X Y E : Int) : Prop :=
  ((k < 0 ∨ (l.length : Int) ≤ k) ∧ X = 0 ∧ Y = 0 ∧ E = 3) ∨ ∃ (K u d : Nat) (r s : List Chg), k = (K : Int) ∧ K < l.length ∧ Mv (canU a b) (-1) K u l r ∧ Mv (canD a b) 1 K d l s ∧ X = u ∧ Y = d ∧ E = 0
theorem RmIs.det {l : List Chg} {a b : List Int} {k X Y E X' Y' E' : Int} (h : RmIs l a b k X Y E) (h' : RmIs l a b k X' Y' E') : X = X' ∧ Y = Y' ∧ E = E' := by
  rcases h with ⟨h0, rfl, rfl, rfl⟩ | ⟨K, u, d, r, s, rfl, hK, h1, h2, rfl, rfl, rfl⟩
  · rcases h' with ⟨_, rfl, rfl, rfl⟩ | ⟨K, u, d, r, s, rfl, hK, h1, h2, rfl, rfl, rfl⟩
    · exact ⟨rfl, rfl, rfl⟩
    · omega
  · rcases h' with ⟨h0, rfl, rfl, rfl⟩ | ⟨K', u', d', r', s', e, hK', h1', h2', rfl, rfl, rfl⟩
    · omega
    · obtain rfl : K = K' := by omega
      obtain ⟨rfl, _⟩ := h1.det h1'
      obtain ⟨rfl, _⟩ := h2.det h2'
      exact ⟨rfl, rfl, rfl⟩
theorem RmRet.calls {f : Nat} {args : Array Value} {w : World} {l : List Chg} {a b : List Int} {k : Int} (h : Calls Try.prog f args w (RmRet w l a b k)) (hf : fits l a b = true) :
    Calls Try.prog f args w fun e w' => ∃ X Y E : Int, e = .returned (.tuple #[.int .i64 X, .int .i64 Y, .int .i64 E]) ∧ RmIs l a b k X Y E ∧ Below w.heap.size w w' := by
  refine h.mono ?_
  rintro e w' ⟨⟨h0, _⟩ | ⟨_, hk, rfl⟩ | ⟨_, K, u, d, r, s, hk, hK, h1, h2, rfl⟩, hb⟩
  · rw [hf] at h0; cases h0
  · exact ⟨0, 0, 3, rfl, .inl ⟨hk, rfl, rfl, rfl⟩, hb⟩
  · exact ⟨u, d, 0, rfl, .inr ⟨K, u, d, r, s, hk, hK, h1, h2, rfl, rfl, rfl⟩, hb⟩

theorem pk64 (v0 : Value) (z0 : List Int) (other : Bool) (w : World) (r0 : Rd w v0 1 z0.length (inVals z0)) (b0 : z0.length ≤ 9223372036854775807) :
    Calls Try.prog 64 #[v0, .bool other] w fun e w' => ∃ (l : List Chg) (a b : List Int) (Al : Option Addr) (cl : Nat) (Aa : Option Addr) (ca : Nat) (Ab : Option Addr) (cb : Nat),
      e = .returned (.tuple #[.slice Al l.length cl, .slice Aa a.length ca, .slice Ab b.length cb]) ∧ fits l a b = true ∧ Rd w' (.slice Al l.length cl) 4 l.length (chVals l) ∧ Rd w' (.slice Aa a.length ca) 1 a.length (inVals a) ∧ Rd w' (.slice Ab b.length cb) 1 b.length (inVals b) ∧ Below w.heap.size w w' := by
  refine (pick64 v0 z0 other w r0 b0).mono ?_
  rintro e w' ⟨l, a, b, v, va, vb, rfl, hf, h1, h2, h3, hb⟩
  have g1 := h1
  have g2 := h2
  have g3 := h3
  obtain ⟨A, c, rfl, _⟩ := h1
  obtain ⟨Aa, ca, rfl, _⟩ := h2
  obtain ⟨Ab, cb, rfl, _⟩ := h3
  exact ⟨l, a, b, A, c, Aa, ca, Ab, cb, rfl, hf, g1, g2, g3, hb⟩

set_option maxHeartbeats 400000 in
theorem mod29b (a n : Int) (w : World) (h1 : 1 ≤ n) (h2 : n ≤ 100000) :
    Calls Try.prog 29 #[.int .i64 a, .int .i64 n] w fun e w' => e = .returned (.int .i64 (gmod a n)) ∧ w = w' := by
  go_enter Try.func29, Try.ntmps29
  go_wp2
  go_ret
  exact ⟨rfl, rfl⟩
end Go.Proofs.Ytagembkjmnfidaa
