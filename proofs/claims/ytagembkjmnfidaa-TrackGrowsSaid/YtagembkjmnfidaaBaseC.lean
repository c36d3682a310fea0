import Derived.Test.YtagembkjmnfidaaBaseB
import Derived.StillTailTactics
namespace Go.Proofs.Ytagembkjmnfidaa
open Go.RowKit
open Go.Proofs.Ml
set_option linter.unusedVariables false

/-- Quiet in one world: still there. -/
theorem still_of_quiet {P : Program} {ops : Array Oper} {W : World} {Q : Act → Prop} : ∀ (l : List Oper) (a : Act), wpQuiet P ops (fun w' => w' = W) Q l a → wpStill P ops W Q l a
  | [], a, h => h
  | o :: rest, a, h => by
    unfold wpQuiet at h
    unfold wpStill
    split at h
    · rename_i hw
      rw [if_pos hw]
      obtain ⟨v, h1, h2⟩ := h
      have h3 := h1 W rfl
      have h4 := still_of_quiet rest _ h2
      unfold Oper.quietAt at h3
      unfold Oper.still
      generalize (execOp a.eval o).run P W = r at *
      cases r with
      | ok n w' =>
        cases n <;> simp only [Oper.quietUpon] at h3 <;> simp only [Oper.stillUpon]
        case value u => obtain ⟨e1, e2⟩ := h3; subst e2; exact ⟨e1, h4⟩
        case skip => obtain ⟨e1, e2⟩ := h3; subst e2; exact ⟨e1, h4⟩
        case enter f args => obtain ⟨e1, hc⟩ := h3; exact ⟨e1, v, hc, h4⟩
      | halt x w' => simp only [Oper.quietUpon] at h3
    · rename_i hw
      rw [if_neg hw]
      exact still_of_quiet rest _ h

/-- A region that draws its order: its first n operations only read; the rest stand in one forced order. -/
theorem wp_region_quiet_tail {P : Program} {id : Nat} {Q : Exit → Act → World → Prop} {a : Act} {w : World} {l : List Oper} (n : Nat) (hm : P.follows .mixedOrders = true) (hB : Region.lexTailB .any l.toArray n = true)
    (h : wpQuiet P l.toArray (fun w' => w' = w.drew) (fun a' => wpList P l.toArray Q (l.drop n) a' w.drew) (l.take n) a) : (Code.region id l.toArray true).wp P Q a w :=
  wp_region_still_tail n hm hB (still_of_quiet _ _ h)

/-- wp_app1, the world spelled as it stands. -/
theorem wp_app1w {P : Program} {ops : Array Oper} {rest : List Oper} {o : Oper} {a : Act} {Q : Exit → Act → World → Prop} {WW : World} (hgd : o.guard = none) (s x : Operand) (t e : TypeId) (size bytes : Nat) (z : Value)
    (ho : o.op = .call { callee := .builtin .append, args := #[s, x], argTypes := #[t, t] }) (ht : P.underlying t = some (.slice e))
    (hinfo : (P.info? e).map (fun i => (i.zero, i.size, i.bytes)) = some (some z, size, bytes)) (hzs : z.cells.size = size) (hsz : 0 < size) (hbytes : bytes ≤ 1000)
    (wr W : World) (base n : Nat) (v : Value) (xs : List Value) (hs : a.eval s = v) (news : Array Value) (H : Nat) (hx : a.eval x = .slice (some ⟨H, 0, none⟩) 1 1) (hH : W.heap.size = H)
    (hW : WW = W.alloc (.cells news e))
    (hown : wr.ownsRow base e size v n xs) (hkeep : W.ownsRow base e size v n xs) (hsize : wr.heap.size ≤ W.heap.size) (hl : news.size = size) (h1' : news.toList.all Value.oneCell' = true) (hn : n ≤ 1000000) (hbase : base ≤ wr.heap.size)
    (h : ∀ v' w', w'.ownsRow base e size v' (n + 1) (xs ++ news.toList) → Below base W w' → (∀ b o, wr.heap.size ≤ b → b < W.heap.size → w'.cell? ⟨b, o, none⟩ = W.cell? ⟨b, o, none⟩) → W.heap.size < w'.heap.size → wpList P ops Q rest (a.put o.dst v') w') :
    wpList P ops Q (o :: rest) a WW := by
  subst hW
  exact wp_app1 hgd s x t e size bytes z ho ht hinfo hzs hsz hbytes wr W base n v xs hs news H hx hH hown hkeep hsize hl h1' hn hbase h

/-- At a step of a region that draws: append(out, x): one element more, onto a list of the call's own. wr: the world in which the list is known to lie; W: behind it, with x's cells in its newest block. -/
theorem step_app1 {P : Program} {ops : Array Oper} {o : Oper} {a : Act} {K : Act → World → Prop} {Q : Exit → Act → World → Prop} {E : Prop} {WW : World} (hgd : o.guard = none) (s x : Operand) (t e : TypeId) (size bytes : Nat) (z : Value)
    (ho : o.op = .call { callee := .builtin .append, args := #[s, x], argTypes := #[t, t] }) (ht : P.underlying t = some (.slice e))
    (hinfo : (P.info? e).map (fun i => (i.zero, i.size, i.bytes)) = some (some z, size, bytes)) (hzs : z.cells.size = size) (hsz : 0 < size) (hbytes : bytes ≤ 1000)
    (wr W : World) (base n : Nat) (v : Value) (xs : List Value) (hs : a.eval s = v) (news : Array Value) (H : Nat) (hx : a.eval x = .slice (some ⟨H, 0, none⟩) 1 1) (hH : W.heap.size = H) (hW : WW = W.alloc (.cells news e))
    (hown : wr.ownsRow base e size v n xs) (hkeep : W.ownsRow base e size v n xs) (hsize : wr.heap.size ≤ W.heap.size) (hl : news.size = size) (h1' : news.toList.all Value.oneCell' = true) (hn : n ≤ 1000000) (hbase : base ≤ wr.heap.size)
    (h : ∀ v' w', w'.ownsRow base e size v' (n + 1) (xs ++ news.toList) → Below base W w' → (∀ b o, wr.heap.size ≤ b → b < W.heap.size → w'.cell? ⟨b, o, none⟩ = W.cell? ⟨b, o, none⟩) → W.heap.size < w'.heap.size → K (a.put o.dst v') w') :
    if Region.wanted o (yielded ops a.tmps) = true then Oper.wp P o a WW K Q else E := by
  have hw : Region.wanted o (yielded ops a.tmps) = true := by simp [Region.wanted, hgd]
  rw [if_pos hw]
  subst hW
  subst hH
  have h1 : ∀ u ∈ news.toList, u.oneCell' = true := List.all_eq_true.1 h1'
  obtain ⟨i0, hi, hz0, hz1, hz2⟩ := info_parts hinfo
  have hown2 : (W.alloc (.cells news e)).ownsRow base e size v n xs := hkeep.alloc _
  have hb0 : ∀ k, v.ownBlock = some k → base ≤ k ∧ k < wr.heap.size := hown.lt
  have hbn : (n + 1) * bytes ≤ 140737488355328 := Nat.le_trans (Nat.mul_le_mul (show n + 1 ≤ 1000001 by omega) hbytes) (by decide)
  refine wp_append_own (W.alloc (.cells news e)) s x t ho base e i0 z size bytes ht hi hz0 hz1 hz2 hzs hsz v n xs hs hown2 ⟨W.heap.size, 0, none⟩ 1 1 news.toList hx (by simpa using hl) ?_ h1 (by simp only [maxLen]; omega) hbn (by simp; omega) ?_
  · intro j u hu
    have hc := cell_of_row (W.alloc (.cells news e)) W.heap.size j news e (0, 0) (heap_alloc_new W _)
    rw [add_head, hc]
    simpa using hu
  · intro v' w' hown' hg _
    have hsz' := hg.size
    simp at hsz'
    refine h v' w' hown' ?_ ?_ (by omega)
    · refine ((Below.refl base W).alloc (by omega) _).grown hg (by simp; omega) fun k hk => (hb0 k hk).1
    · intro b o h1 h2
      have hne : some b ≠ v.ownBlock := fun e => by have := (hb0 b e.symm).2; omega
      have e1 := World.cell?_of_block (w := W.alloc (.cells news e)) (w' := w') (a := ⟨b, o, none⟩) (hg.block b (by simp; omega) hne)
      rw [e1]
      exact World.cell?_alloc_lt W _ ⟨b, o, none⟩ h2


theorem hk_set1 (L : List Hnk) (a b c d e f x : Int) : (hkVals (L ++ [⟨a, b, c, d, e, f⟩])).set (L.length * 6 + 1) (.int .i64 x) = hkVals (L ++ [⟨a, x, c, d, e, f⟩]) := by
  rw [hkVals_app, hkVals_app, List.set_append_right _ _ (by rw [hkVals_len]; omega), hkVals_len, show L.length * 6 + 1 - L.length * 6 = 1 by omega]
  rfl
theorem hk_set3 (L : List Hnk) (a b c d e f x : Int) : (hkVals (L ++ [⟨a, b, c, d, e, f⟩])).set (L.length * 6 + 3) (.int .i64 x) = hkVals (L ++ [⟨a, b, c, x, e, f⟩]) := by
  rw [hkVals_app, hkVals_app, List.set_append_right _ _ (by rw [hkVals_len]; omega), hkVals_len, show L.length * 6 + 3 - L.length * 6 = 3 by omega]
  rfl
theorem hk_set5 (L : List Hnk) (a b c d e f x : Int) : (hkVals (L ++ [⟨a, b, c, d, e, f⟩])).set (L.length * 6 + 5) (.int .i64 x) = hkVals (L ++ [⟨a, b, c, d, e, x⟩]) := by
  rw [hkVals_app, hkVals_app, List.set_append_right _ _ (by rw [hkVals_len]; omega), hkVals_len, show L.length * 6 + 5 - L.length * 6 = 5 by omega]
  rfl
/-- The last hunk of a list of the call's own: three of its fields are stored anew. -/
theorem own_upd {w : World} {B g cap : Nat} {L : List Hnk} {a b c d e f x y z : Int} (h : w.ownsRow B 37 6 (.slice (some ⟨g, 0, none⟩) (L.length + 1) cap) (L.length + 1) (hkVals (L ++ [⟨a, b, c, d, e, f⟩]))) :
    (((w.setCell ⟨g, L.length * 6 + 1, none⟩ (.int .i64 x)).setCell ⟨g, L.length * 6 + 3, none⟩ (.int .i64 y)).setCell ⟨g, L.length * 6 + 5, none⟩ (.int .i64 z)).ownsRow B 37 6 (.slice (some ⟨g, 0, none⟩) (L.length + 1) cap) (L ++ [(⟨a, x, c, y, e, z⟩ : Hnk)]).length (hkVals (L ++ [⟨a, x, c, y, e, z⟩])) := by
  have h1 := (h.stored (L.length * 6 + 1) (.int .i64 x)).1
  have h2 := (h1.stored (L.length * 6 + 3) (.int .i64 y)).1
  have h3 := (h2.stored (L.length * 6 + 5) (.int .i64 z)).1
  rw [hk_set1, hk_set3, hk_set5] at h3
  have hn : (L ++ [(⟨a, x, c, y, e, z⟩ : Hnk)]).length = L.length + 1 := by simp
  rw [hn]
  exact h3
theorem own_hk_app {w : World} {B g cap n : Nat} {L : List Hnk} {a b c d e f : Int} (h : w.ownsRow B 37 6 (.slice (some ⟨g, 0, none⟩) n cap) n (hkVals L ++ (#[.int .i64 a, .int .i64 b, .int .i64 c, .int .i64 d, .int .i64 e, .int .i64 f] : Array Value).toList)) : w.ownsRow B 37 6 (.slice (some ⟨g, 0, none⟩) n cap) n (hkVals (L ++ [⟨a, b, c, d, e, f⟩])) := by
  rw [hkVals_app]; exact h
theorem last_cells {w : World} {B g cap : Nat} {L : List Hnk} {a b c d e f : Int} (h : w.ownsRow B 37 6 (.slice (some ⟨g, 0, none⟩) (L.length + 1) cap) (L.length + 1) (hkVals (L ++ [⟨a, b, c, d, e, f⟩]))) :
    w.cell? ⟨g, L.length * 6 + 1, none⟩ = some (.int .i64 b) ∧ w.cell? ⟨g, L.length * 6 + 3, none⟩ = some (.int .i64 d) ∧ w.cell? ⟨g, L.length * 6 + 5, none⟩ = some (.int .i64 f) := by
  have key : ∀ j, j < 6 → w.cell? ⟨g, L.length * 6 + j, none⟩ = (hkCells ⟨a, b, c, d, e, f⟩)[j]? := fun j hj => by
    rw [h.cellAt (L.length * 6 + j) (by rw [Nat.add_mul]; omega), hkVals_app, List.getElem?_append_right (by rw [hkVals_len]; omega), hkVals_len, show L.length * 6 + j - L.length * 6 = j by omega]
    simp [hkVals]
  exact ⟨key 1 (by omega), key 3 (by omega), key 5 (by omega)⟩
end Go.Proofs.Ytagembkjmnfidaa
