import Derived.Test.YtbjbcfiieacamaaGreatDoorProg
import Derived.Test.YtbjbcfiieacamaaGreatDoorShelf
import Derived.WalkKit
import Derived.WalkSpells
import Derived.WalkLawsBesides
import Derived.Handy
import Derived.BigQuiet
import Derived.Deep.QuietTactic
import Derived.StillTailTactics
import Derived.OneCell
import Derived.RegionTactic
import Derived.ChangeAlike
import Derived.BigRegion
import Derived.Deep.RegionHeld3
import Derived.Deep.DeepCutAuto
namespace Go.Proofs.YtbjbcfiieacamaaGreatDoor
open Go.RowKit
set_option linter.unusedVariables false

theorem ret_int {k : IntKind} {a b : Int} (h : a = b) : Ending.returned (.int k a) = .returned (.int k b) := by rw [h]
theorem ret_bool {a b : Bool} (h : a = b) : Ending.returned (.bool a) = .returned (.bool b) := by rw [h]
theorem bcell {W w1 : World} (hb : Below W.heap.size W w1) : (∀ b o, b < W.heap.size → w1.cell? ⟨b, o, none⟩ = W.cell? ⟨b, o, none⟩) ∧ (∀ b o, b < W.heap.size → w1.frozen? ⟨b, o, none⟩ = W.frozen? ⟨b, o, none⟩) :=
  ⟨fun b o h => hb.cell (p := ⟨b, o, none⟩) h, fun b o h => hb.frozen (p := ⟨b, o, none⟩) h⟩
theorem hide {p : Prop} (h : p) : Hid p := h
theorem add_head (g j : Nat) : (⟨g, 0, none⟩ : Addr).add j = ⟨g, j, none⟩ := by unfold Addr.add; split <;> simp_all
/-- The slice value v of n elements of 'size' cells each reads as the cells cs. -/
def Rd (w : World) (v : Value) (size n : Nat) (cs : List Value) : Prop :=
  ∃ A cap, v = .slice A n cap ∧ n ≤ cap ∧ cap ≤ maxLen ∧ cs.length = n * size ∧ (0 < n → ∃ b off, A = some ⟨b, off, none⟩ ∧ b < w.heap.size ∧ ∀ j u, cs[j]? = some u → w.cell? ⟨b, off + j, none⟩ = some u)
theorem Rd.below {w w' : World} {v : Value} {size n : Nat} {cs : List Value} {B : Nat} (h : Rd w v size n cs) (hb : Below B w w') (hB : w.heap.size ≤ B) : Rd w' v size n cs := by
  obtain ⟨A, cap, hv, h1, h1', h2, h3⟩ := h
  refine ⟨A, cap, hv, h1, h1', h2, fun hn => ?_⟩
  obtain ⟨b, off, hA, hbl, hc⟩ := h3 hn
  exact ⟨b, off, hA, Nat.lt_of_lt_of_le hbl hb.size, fun j u hu => (hb.cell (p := ⟨b, off + j, none⟩) (Nat.lt_of_lt_of_le hbl hB)).trans (hc j u hu)⟩
theorem Rd.of_own {w : World} {base : Nat} {e : TypeId} {size n : Nat} {v : Value} {cs : List Value} (h : w.ownsRow base e size v n cs) : Rd w v size n cs := by
  rcases h.2 with ⟨rfl, rfl⟩ | ⟨g, cap, cur, rfl, _, hg, hn, hcap, _, _⟩
  · exact ⟨none, 0, rfl, Nat.le_refl _, by simp, h.1, fun h => absurd h (by omega)⟩
  · refine ⟨_, cap, rfl, hn, hcap, h.1, fun _ => ⟨g, 0, rfl, (Array.getElem?_eq_some_iff.1 hg).1, fun j u hu => ?_⟩⟩
    have := h.cells (g := g) rfl j u hu
    rwa [add_head, ← Nat.zero_add j] at this
/-- The call hands back a list of its own making. -/
def RetRow (w : World) (e : TypeId) (size n : Nat) (cs : List Value) (x : Ending) (w' : World) : Prop := ∃ v, x = .returned v ∧ w'.ownsRow w.heap.size e size v n cs ∧ Below w.heap.size w w'
theorem new_cell (w : World) (cs : Array Value) (t : TypeId) (j : Nat) : (w.alloc (.cells cs t)).cell? ⟨w.heap.size, j, none⟩ = cs[j]? := cell_of_row _ _ j cs t (0, 0) (heap_alloc_new w _)
/-- append(out, x): one element more, onto a list of the call's own. wr: the world in which the list is known to lie; W: behind it, with x's cells in its newest block. -/
theorem wp_app1 {P : Program} {ops : Array Oper} {rest : List Oper} {o : Oper} {a : Act} {Q : Exit → Act → World → Prop} (hgd : o.guard = none) (s x : Operand) (t e : TypeId) (size bytes : Nat) (z : Value)
    (ho : o.op = .call { callee := .builtin .append, args := #[s, x], argTypes := #[t, t] }) (ht : P.underlying t = some (.slice e))
    (hinfo : (P.info? e).map (fun i => (i.zero, i.size, i.bytes)) = some (some z, size, bytes)) (hzs : z.cells.size = size) (hsz : 0 < size) (hbytes : bytes ≤ 1000)
    (wr W : World) (base n : Nat) (v : Value) (xs : List Value) (hs : a.eval s = v) (news : Array Value) (H : Nat) (hx : a.eval x = .slice (some ⟨H, 0, none⟩) 1 1) (hH : W.heap.size = H)
    (hown : wr.ownsRow base e size v n xs) (hkeep : W.ownsRow base e size v n xs) (hsize : wr.heap.size ≤ W.heap.size) (hl : news.size = size) (h1' : news.toList.all Value.oneCell' = true) (hn : n ≤ 1000000) (hbase : base ≤ wr.heap.size)
    (h : ∀ v' w', w'.ownsRow base e size v' (n + 1) (xs ++ news.toList) → Below base W w' → (∀ b o, wr.heap.size ≤ b → b < W.heap.size → w'.cell? ⟨b, o, none⟩ = W.cell? ⟨b, o, none⟩) → W.heap.size < w'.heap.size → wpList P ops Q rest (a.put o.dst v') w') :
    wpList P ops Q (o :: rest) a (W.alloc (.cells news e)) := by
  subst hH
  have h1 : ∀ u ∈ news.toList, u.oneCell' = true := List.all_eq_true.1 h1'
  obtain ⟨i0, hi, hz0, hz1, hz2⟩ := info_parts hinfo
  have hown2 : (W.alloc (.cells news e)).ownsRow base e size v n xs := hkeep.alloc _
  have hb0 : ∀ k, v.ownBlock = some k → base ≤ k ∧ k < wr.heap.size := hown.lt
  have hbn : (n + 1) * bytes ≤ 140737488355328 := Nat.le_trans (Nat.mul_le_mul (show n + 1 ≤ 1000001 by omega) hbytes) (by decide)
  refine wpList_append_own (W.alloc (.cells news e)) hgd s x t ho base e i0 z size bytes ht hi hz0 hz1 hz2 hzs hsz v n xs hs hown2 ⟨W.heap.size, 0, none⟩ 1 1 news.toList hx (by simpa using hl) ?_ h1 (by simp only [maxLen]; omega) hbn (by simp; omega) ?_
  · intro j u hu
    have hc := cell_of_row (W.alloc (.cells news e)) W.heap.size j news e (0, 0) (heap_alloc_new W _)
    rw [add_head, hc]
    simpa using hu
  · intro v' w' hown' hg _
    have hsz' := hg.size
    simp at hsz'
    refine h v' w' hown' ?_ ?_ (by omega)
    · refine ((Below.refl base W).alloc (by omega) _).grown hg (by simp; omega) fun k hk => (hb0 k hk).1
    · intro b o h1 h2
      have hne : some b ≠ v.ownBlock := fun e => by have := (hb0 b e.symm).2; omega
      have e1 := World.cell?_of_block (w := W.alloc (.cells news e)) (w' := w') (a := ⟨b, o, none⟩) (hg.block b (by simp; omega) hne)
      rw [e1]
      exact World.cell?_alloc_lt W _ ⟨b, o, none⟩ h2
theorem own_drewN {w : World} {B : Nat} {e : TypeId} {size n : Nat} {v : Value} {cs : List Value} (h : w.ownsRow B e size v n cs) (k : Nat) : (w.drewN k).ownsRow B e size v n cs := h
theorem own_base {w : World} {B B' : Nat} {e : TypeId} {size n : Nat} {v : Value} {cs : List Value} (h : w.ownsRow B e size v n cs) (hB : B' ≤ B) : w.ownsRow B' e size v n cs := by
  refine ⟨h.1, ?_⟩
  rcases h.2 with h2 | ⟨g, cap, cur, hv, hg, r⟩
  · exact .inl h2
  · exact .inr ⟨g, cap, cur, hv, Nat.le_trans hB hg, r⟩
theorem below_drewN {B : Nat} {a w : World} (h : Below B a w) (n : Nat) : Below B a (w.drewN n) := ⟨h.os, h.tape, h.output, h.size, h.block⟩
theorem own_below {w w' : World} {B N : Nat} {e : TypeId} {size n : Nat} {v : Value} {cs : List Value} (h : w.ownsRow B e size v n cs) (hb : Below N w w') (hN : w.heap.size ≤ N) : w'.ownsRow B e size v n cs := by
  refine ⟨h.1, ?_⟩
  rcases h.2 with h2 | ⟨g, cap, cur, hv, hg, hgg, r⟩
  · exact .inl h2
  · have hlt := (Array.getElem?_eq_some_iff.1 hgg).1
    exact .inr ⟨g, cap, cur, hv, hg, by rw [hb.block g (by omega)]; exact hgg, r⟩
theorem own_drew {w : World} {B : Nat} {e : TypeId} {size n : Nat} {v : Value} {cs : List Value} (h : w.ownsRow B e size v n cs) : w.drew.ownsRow B e size v n cs := h
/-- wp_app1, the world spelled as it stands. -/
theorem wp_app1w {P : Program} {ops : Array Oper} {rest : List Oper} {o : Oper} {a : Act} {Q : Exit → Act → World → Prop} {WW : World} (hgd : o.guard = none) (s x : Operand) (t e : TypeId) (size bytes : Nat) (z : Value)
    (ho : o.op = .call { callee := .builtin .append, args := #[s, x], argTypes := #[t, t] }) (ht : P.underlying t = some (.slice e))
    (hinfo : (P.info? e).map (fun i => (i.zero, i.size, i.bytes)) = some (some z, size, bytes)) (hzs : z.cells.size = size) (hsz : 0 < size) (hbytes : bytes ≤ 1000)
    (wr W : World) (base n : Nat) (v : Value) (xs : List Value) (hs : a.eval s = v) (news : Array Value) (H : Nat) (hx : a.eval x = .slice (some ⟨H, 0, none⟩) 1 1) (hH : W.heap.size = H)
    (hW : WW = W.alloc (.cells news e))
    (hown : wr.ownsRow base e size v n xs) (hkeep : W.ownsRow base e size v n xs) (hsize : wr.heap.size ≤ W.heap.size) (hl : news.size = size) (h1' : news.toList.all Value.oneCell' = true) (hn : n ≤ 1000000) (hbase : base ≤ wr.heap.size)
    (h : ∀ v' w', w'.ownsRow base e size v' (n + 1) (xs ++ news.toList) → Below base W w' → (∀ b o, wr.heap.size ≤ b → b < W.heap.size → w'.cell? ⟨b, o, none⟩ = W.cell? ⟨b, o, none⟩) → W.heap.size < w'.heap.size → wpList P ops Q rest (a.put o.dst v') w') :
    wpList P ops Q (o :: rest) a WW := by
  subst hW
  exact wp_app1 hgd s x t e size bytes z ho ht hinfo hzs hsz hbytes wr W base n v xs hs news H hx hH hown hkeep hsize hl h1' hn hbase h
/-- At a step of a region that draws: append(out, x): one element more, onto a list of the call's own. wr: the world in which the list is known to lie; W: behind it, with x's cells in its newest block. -/
theorem step_app1 {P : Program} {ops : Array Oper} {o : Oper} {a : Act} {K : Act → World → Prop} {Q : Exit → Act → World → Prop} {E : Prop} {WW : World} (hgd : o.guard = none) (s x : Operand) (t e : TypeId) (size bytes : Nat) (z : Value)
    (ho : o.op = .call { callee := .builtin .append, args := #[s, x], argTypes := #[t, t] }) (ht : P.underlying t = some (.slice e))
    (hinfo : (P.info? e).map (fun i => (i.zero, i.size, i.bytes)) = some (some z, size, bytes)) (hzs : z.cells.size = size) (hsz : 0 < size) (hbytes : bytes ≤ 1000)
    (wr W : World) (base n : Nat) (v : Value) (xs : List Value) (hs : a.eval s = v) (news : Array Value) (H : Nat) (hx : a.eval x = .slice (some ⟨H, 0, none⟩) 1 1) (hH : W.heap.size = H) (hW : WW = W.alloc (.cells news e))
    (hown : wr.ownsRow base e size v n xs) (hkeep : W.ownsRow base e size v n xs) (hsize : wr.heap.size ≤ W.heap.size) (hl : news.size = size) (h1' : news.toList.all Value.oneCell' = true) (hn : n ≤ 1000000) (hbase : base ≤ wr.heap.size)
    (h : ∀ v' w', w'.ownsRow base e size v' (n + 1) (xs ++ news.toList) → Below base W w' → (∀ b o, wr.heap.size ≤ b → b < W.heap.size → w'.cell? ⟨b, o, none⟩ = W.cell? ⟨b, o, none⟩) → W.heap.size < w'.heap.size → K (a.put o.dst v') w') :
    if Region.wanted o (yielded ops a.tmps) = true then Oper.wp P o a WW K Q else E := by
  have hw : Region.wanted o (yielded ops a.tmps) = true := by simp [Region.wanted, hgd]
  rw [if_pos hw]
  subst hW
  subst hH
  have h1 : ∀ u ∈ news.toList, u.oneCell' = true := List.all_eq_true.1 h1'
  obtain ⟨i0, hi, hz0, hz1, hz2⟩ := info_parts hinfo
  have hown2 : (W.alloc (.cells news e)).ownsRow base e size v n xs := hkeep.alloc _
  have hb0 : ∀ k, v.ownBlock = some k → base ≤ k ∧ k < wr.heap.size := hown.lt
  have hbn : (n + 1) * bytes ≤ 140737488355328 := Nat.le_trans (Nat.mul_le_mul (show n + 1 ≤ 1000001 by omega) hbytes) (by decide)
  refine wp_append_own (W.alloc (.cells news e)) s x t ho base e i0 z size bytes ht hi hz0 hz1 hz2 hzs hsz v n xs hs hown2 ⟨W.heap.size, 0, none⟩ 1 1 news.toList hx (by simpa using hl) ?_ h1 (by simp only [maxLen]; omega) hbn (by simp; omega) ?_
  · intro j u hu
    have hc := cell_of_row (W.alloc (.cells news e)) W.heap.size j news e (0, 0) (heap_alloc_new W _)
    rw [add_head, hc]
    simpa using hu
  · intro v' w' hown' hg _
    have hsz' := hg.size
    simp at hsz'
    refine h v' w' hown' ?_ ?_ (by omega)
    · refine ((Below.refl base W).alloc (by omega) _).grown hg (by simp; omega) fun k hk => (hb0 k hk).1
    · intro b o h1 h2
      have hne : some b ≠ v.ownBlock := fun e => by have := (hb0 b e.symm).2; omega
      have e1 := World.cell?_of_block (w := W.alloc (.cells news e)) (w' := w') (a := ⟨b, o, none⟩) (hg.block b (by simp; omega) hne)
      rw [e1]
      exact World.cell?_alloc_lt W _ ⟨b, o, none⟩ h2
/-- The value of a list of the call's own. -/
theorem own_open {w : World} {B : Nat} {e : TypeId} {size n : Nat} {v : Value} {cs : List Value} (h : w.ownsRow B e size v n cs) : ∃ A cap, v = .slice A n cap ∧ (0 < n → ∃ g, A = some ⟨g, 0, none⟩ ∧ B ≤ g ∧ g < w.heap.size) := by
  rcases h.2 with ⟨rfl, rfl⟩ | ⟨g, cap, cur, rfl, hb, hg, hn, hcap, _, _⟩
  · exact ⟨none, 0, rfl, fun h => absurd h (by omega)⟩
  · exact ⟨_, cap, rfl, fun _ => ⟨g, rfl, hb, (Array.getElem?_eq_some_iff.1 hg).1⟩⟩
/-- append(out, x): one element more, onto a list of the call's own. wr: the world in which the list is known to lie; W: behind it, with x's cells in its newest block. -/
theorem wp_app1k {P : Program} {ops : Array Oper} {rest : List Oper} {o : Oper} {a : Act} {Q : Exit → Act → World → Prop} (hgd : o.guard = none) (s x : Operand) (t e : TypeId) (size bytes : Nat) (z : Value)
    (ho : o.op = .call { callee := .builtin .append, args := #[s, x], argTypes := #[t, t] }) (ht : P.underlying t = some (.slice e))
    (hinfo : (P.info? e).map (fun i => (i.zero, i.size, i.bytes)) = some (some z, size, bytes)) (hzs : z.cells.size = size) (hsz : 0 < size) (hbytes : bytes ≤ 1000)
    (wr W : World) (base n : Nat) (v : Value) (xs : List Value) (hs : a.eval s = v) (news : Array Value) (H : Nat) (hx : a.eval x = .slice (some ⟨H, 0, none⟩) 1 1) (hH : W.heap.size = H)
    (hown : wr.ownsRow base e size v n xs) (hkeep : W.ownsRow base e size v n xs) (hsize : wr.heap.size ≤ W.heap.size) (hl : news.size = size) (h1' : news.toList.all Value.oneCell' = true) (hn : n ≤ 1000000) (hbase : base ≤ wr.heap.size)
    (h : ∀ v' w', w'.ownsRow base e size v' (n + 1) (xs ++ news.toList) → Below base W w' → (∀ b, b < W.heap.size → some b ≠ v.ownBlock → w'.heap[b]? = W.heap[b]?) → W.heap.size < w'.heap.size → wpList P ops Q rest (a.put o.dst v') w') :
    wpList P ops Q (o :: rest) a (W.alloc (.cells news e)) := by
  subst hH
  have h1 : ∀ u ∈ news.toList, u.oneCell' = true := List.all_eq_true.1 h1'
  obtain ⟨i0, hi, hz0, hz1, hz2⟩ := info_parts hinfo
  have hown2 : (W.alloc (.cells news e)).ownsRow base e size v n xs := hkeep.alloc _
  have hb0 : ∀ k, v.ownBlock = some k → base ≤ k ∧ k < wr.heap.size := hown.lt
  have hbn : (n + 1) * bytes ≤ 140737488355328 := Nat.le_trans (Nat.mul_le_mul (show n + 1 ≤ 1000001 by omega) hbytes) (by decide)
  refine wpList_append_own (W.alloc (.cells news e)) hgd s x t ho base e i0 z size bytes ht hi hz0 hz1 hz2 hzs hsz v n xs hs hown2 ⟨W.heap.size, 0, none⟩ 1 1 news.toList hx (by simpa using hl) ?_ h1 (by simp only [maxLen]; omega) hbn (by simp; omega) ?_
  · intro j u hu
    have hc := cell_of_row (W.alloc (.cells news e)) W.heap.size j news e (0, 0) (heap_alloc_new W _)
    rw [add_head, hc]
    simpa using hu
  · intro v' w' hown' hg _
    have hsz' := hg.size
    simp at hsz'
    refine h v' w' hown' ?_ ?_ (by omega)
    · refine ((Below.refl base W).alloc (by omega) _).grown hg (by simp; omega) fun k hk => (hb0 k hk).1
    · intro b h2 hne
      exact (hg.block b (by simp; omega) hne).trans (Below.heap_alloc W _ b h2)
/-- A row of another type is no row of this one. -/
theorem own_other {w : World} {B : Nat} {e t : TypeId} {size n : Nat} {v : Value} {cs : List Value} {X : Nat} {cc : Array Value} {fr : Nat × Nat} (h : w.ownsRow B e size v n cs) (hX : w.heap[X]? = some (.cells cc t fr)) (hne : t ≠ e) : some X ≠ v.ownBlock := by
  rcases h.2 with ⟨rfl, rfl⟩ | ⟨g, cap, cur, rfl, _, hg, _⟩
  · exact fun e => by cases e
  · intro e'
    simp only [Value.ownBlock, Option.some.injEq] at e'
    subst e'
    rw [hX] at hg
    injection hg with hg
    injection hg with _ h2 _
    exact hne h2
theorem only_refl (w : World) (row : Option Nat) : w.grownBy w row := ⟨rfl, rfl, rfl, Nat.le_refl _, fun _ _ _ => rfl⟩
theorem only_drewN {a w : World} {row : Option Nat} (h : a.grownBy w row) (n : Nat) : a.grownBy (w.drewN n) row := ⟨h.os, h.tape, h.output, h.size, h.block⟩
theorem only_drew {a w : World} {row : Option Nat} (h : a.grownBy w row) : a.grownBy w.drew row := ⟨h.os, h.tape, h.output, h.size, h.block⟩
theorem only_alloc {a w : World} {row : Option Nat} (h : a.grownBy w row) (o : Obj) : a.grownBy (w.alloc o) row :=
  ⟨h.os, h.tape, h.output, Nat.le_trans h.size (by simp), fun i hi hne => (Below.heap_alloc w o i (Nat.lt_of_lt_of_le hi h.size)).trans (h.block i hi hne)⟩
theorem only_setCell {a w : World} {g : Nat} (h : a.grownBy w (some g)) {p : Addr} (hp : p.block = g) (u : Value) : a.grownBy (w.setCell p u) (some g) :=
  ⟨h.os, h.tape, h.output, by simpa [World.setCell] using h.size, fun i hi hne => (Below.heap_setCell w p u i (by rintro rfl; exact hne (by rw [hp]))).trans (h.block i hi hne)⟩
theorem only_below {a w : World} {g B : Nat} (h : a.grownBy w (some g)) (hB : B ≤ a.heap.size) (hg : B ≤ g) : Below B a w :=
  ⟨h.os, h.tape, h.output, h.size, fun i hi => h.block i (by omega) (fun e => by injection e with e; omega)⟩
theorem only_of_below {a w : World} (h : Below a.heap.size a w) (row : Option Nat) : a.grownBy w row := ⟨h.os, h.tape, h.output, h.size, fun i hi _ => h.block i hi⟩
theorem only_trans {a b c : World} {g : Nat} (h : a.grownBy b (some g)) (k : b.grownBy c (some g)) : a.grownBy c (some g) :=
  ⟨k.os.trans h.os, k.tape.trans h.tape, k.output.trans h.output, Nat.le_trans h.size k.size, fun i hi hne => (k.block i (Nat.lt_of_lt_of_le hi h.size) hne).trans (h.block i hi hne)⟩
theorem only_cell {a w : World} {g : Nat} (h : a.grownBy w (some g)) {b o : Nat} {v : Value} (hc : a.cell? ⟨b, o, none⟩ = some v) (hne : b ≠ g) : w.cell? ⟨b, o, none⟩ = some v :=
  h.cell (a := ⟨b, o, none⟩) hc (fun e => hne (by injection e))
theorem Rd.only {w w' : World} {v : Value} {size n : Nat} {cs : List Value} {g : Nat} (h : Rd w v size n cs) (hg : w.grownBy w' (some g)) (hne : ∀ A c, v = .slice (some A) n c → A.block ≠ g) : Rd w' v size n cs := by
  obtain ⟨A, cap, hv, h1, h1', h2, h3⟩ := h
  refine ⟨A, cap, hv, h1, h1', h2, fun hn => ?_⟩
  obtain ⟨b, off, hA, hbl, hc⟩ := h3 hn
  have hbg : b ≠ g := hne ⟨b, off, none⟩ cap (by rw [hv, hA])
  exact ⟨b, off, hA, Nat.lt_of_lt_of_le hbl hg.size, fun j u hu => only_cell hg (hc j u hu) hbg⟩
theorem Rd.nil (w : World) (size : Nat) : Rd w (.slice none 0 0) size 0 [] := ⟨none, 0, rfl, Nat.le_refl _, by simp, by simp, fun h => by simp at h⟩
theorem Rd.at {w : World} {A : Option Addr} {n cap size : Nat} {cs : List Value} (h : Rd w (.slice A n cap) size n cs) (hn : 0 < n) : ∃ b off, A = some ⟨b, off, none⟩ ∧ b < w.heap.size ∧ ∀ j u, cs[j]? = some u → w.cell? ⟨b, off + j, none⟩ = some u := by
  obtain ⟨A', cap', hv, _, _, _, h3⟩ := h
  injection hv with e1 e2 e3
  subst e1
  exact h3 hn
/-- A list lies where it lay, while only one block, and what is new, has turned. -/
theorem Rd.keep {w w' : World} {A : Option Addr} {size n cap : Nat} {cs : List Value} {row : Option Nat} (h : Rd w (.slice A n cap) size n cs) (hg : w.grownBy w' row) (hne : 0 < n → ∀ b off, A = some ⟨b, off, none⟩ → some b ≠ row) : Rd w' (.slice A n cap) size n cs := by
  obtain ⟨A', cap', hv, h1, h1', h2, h3⟩ := h
  injection hv with e1 e2 e3
  subst e1
  subst e3
  refine ⟨A, cap, rfl, h1, h1', h2, fun hn => ?_⟩
  obtain ⟨b, off, hA, hbl, hc⟩ := h3 hn
  exact ⟨b, off, hA, Nat.lt_of_lt_of_le hbl hg.size, fun j u hu => hg.cell (a := ⟨b, off + j, none⟩) (hc j u hu) (hne hn b off hA)⟩

/-- A block that is known whole. -/
def Blk (w : World) (g : Nat) (t : TypeId) (cs : Array Value) : Prop := w.heap[g]? = some (.cells cs t (0, 0))
theorem Blk.lt {w : World} {g : Nat} {t : TypeId} {cs : Array Value} (h : Blk w g t cs) : g < w.heap.size := (Array.getElem?_eq_some_iff.1 h).1
theorem Blk.cell {w : World} {g : Nat} {t : TypeId} {cs : Array Value} (h : Blk w g t cs) (i : Nat) : w.cell? ⟨g, i, none⟩ = cs[i]? := cell_of_row w g i cs t (0, 0) h
theorem Blk.frozen {w : World} {g : Nat} {t : TypeId} {cs : Array Value} (h : Blk w g t cs) (i : Nat) : w.frozen? ⟨g, i, none⟩ = false := by
  unfold Blk at h
  simp [World.frozen?, h]
theorem Blk.new (w : World) (t : TypeId) (cs : Array Value) : Blk (w.alloc (.cells cs t)) w.heap.size t cs := heap_alloc_new w _
theorem Blk.alloc {w : World} {g : Nat} {t : TypeId} {cs : Array Value} (h : Blk w g t cs) (o : Obj) : Blk (w.alloc o) g t cs := (Below.heap_alloc w o g h.lt).trans h
theorem Blk.drewN {w : World} {g : Nat} {t : TypeId} {cs : Array Value} (h : Blk w g t cs) (n : Nat) : Blk (w.drewN n) g t cs := h
theorem Blk.set_ {w : World} {g : Nat} {t : TypeId} {cs : Array Value} (h : Blk w g t cs) (i : Nat) (u : Value) : Blk (w.setCell ⟨g, i, none⟩ u) g t (cs.setIfInBounds i u) := by
  unfold Blk at h ⊢
  simp [World.setCell, Array.getElem?_modify, h]
theorem Blk.far {w : World} {g : Nat} {t : TypeId} {cs : Array Value} (h : Blk w g t cs) {p : Addr} (hp : g ≠ p.block) (u : Value) : Blk (w.setCell p u) g t cs := (Below.heap_setCell w p u g hp).trans h
theorem Blk.below {w w' : World} {g B : Nat} {t : TypeId} {cs : Array Value} (h : Blk w g t cs) (hb : Below B w w') (hg : g < B) : Blk w' g t cs := (hb.block g hg).trans h
theorem Blk.rd {w : World} {g : Nat} {t : TypeId} {cs : List Value} {size n cap : Nat} (h : Blk w g t cs.toArray) (hl : cs.length = n * size) (hn : n ≤ cap) (hc : cap ≤ maxLen) : Rd w (.slice (some ⟨g, 0, none⟩) n cap) size n cs :=
  ⟨_, cap, rfl, hn, hc, hl, fun _ => ⟨g, 0, rfl, h.lt, fun j u hu => by rw [Nat.zero_add, h.cell]; simpa using hu⟩⟩

/-- A literal slice. -/
theorem Rd.lit {W : World} {B : Nat} {t : TypeId} {cs : List Value} {size n : Nat} (hB : B = W.heap.size) (hl : cs.length = n * size) (hc : n ≤ maxLen) : Rd (W.alloc (.cells cs.toArray t)) (.slice (some ⟨B, 0, none⟩) n n) size n cs := by
  subst hB; exact (Blk.new W t cs.toArray).rd hl (Nat.le_refl _) hc
theorem Rd.len {w : World} {A : Option Addr} {size n cap : Nat} {cs : List Value} (h : Rd w (.slice A n cap) size n cs) : n ≤ cap ∧ cap ≤ maxLen ∧ cs.length = n * size := by
  obtain ⟨A', c', e, h1, h2, h3, _⟩ := h
  injection e with _ _ e
  subst e
  exact ⟨h1, h2, h3⟩
theorem Rd.c0 {w : World} {A : Option Addr} {size n cap : Nat} {u : Value} {cs : List Value} (h : Rd w (.slice A n cap) size n (u :: cs)) (hn : 0 < n) : ∃ b off, A = some ⟨b, off, none⟩ ∧ b < w.heap.size ∧ w.cell? ⟨b, off, none⟩ = some u := by
  obtain ⟨b, off, e, h1, h2⟩ := h.at hn
  exact ⟨b, off, e, h1, h2 0 u rfl⟩

theorem Rd.far {w : World} {A : Option Addr} {size n cap : Nat} {cs : List Value} (h : Rd w (.slice A n cap) size n cs) {p : Addr} (hp : 0 < n → ∀ b off, A = some ⟨b, off, none⟩ → b ≠ p.block) (u : Value) : Rd (w.setCell p u) (.slice A n cap) size n cs := by
  obtain ⟨A', c', e, h1, h2, h3, h4⟩ := h
  injection e with e1 e2 e3
  subst e1
  subst e3
  refine ⟨A, cap, rfl, h1, h2, h3, fun hn => ?_⟩
  obtain ⟨b, off, e, hb, hc⟩ := h4 hn
  refine ⟨b, off, e, by simpa [World.setCell] using hb, fun j v hj => ?_⟩
  rw [World.cell?_of_block (Below.heap_setCell w p u b (hp hn b off e))]
  exact hc j v hj
theorem Rd.belowAt {w w' : World} {g n cap size B : Nat} {cs : List Value} (h : Rd w (.slice (some ⟨g, 0, none⟩) n cap) size n cs) (hb : Below B w w') (hg : g < B) : Rd w' (.slice (some ⟨g, 0, none⟩) n cap) size n cs := by
  obtain ⟨A', c', e, h1, h2, h3, h4⟩ := h
  injection e with e1 _ e3
  subst e1
  subst e3
  refine ⟨_, cap, rfl, h1, h2, h3, fun hn => ?_⟩
  obtain ⟨b, off, e, hbl, hc⟩ := h4 hn
  injection e with e
  injection e with e1 e2 _
  subst e1
  subst e2
  exact ⟨g, 0, rfl, Nat.lt_of_lt_of_le hbl hb.size, fun j u hu => (hb.cell (p := ⟨g, 0 + j, none⟩) hg).trans (hc j u hu)⟩
theorem Rd.alloc {w : World} {v : Value} {size n : Nat} {cs : List Value} (h : Rd w v size n cs) (o : Obj) : Rd (w.alloc o) v size n cs := h.below ((Below.refl _ _).alloc (Nat.le_refl _) o) (Nat.le_refl _)
theorem Rd.drewN {w : World} {v : Value} {size n : Nat} {cs : List Value} (h : Rd w v size n cs) (k : Nat) : Rd (w.drewN k) v size n cs := h

/-- What the model's own append leaves where it grows nil by one element: the new row. -/
theorem Rd.grown {Y : World} {t : TypeId} {H size cp : Nat} {news z : Array Value} (hH : Y.heap.size = H) (hl : news.size = size) (h1 : 1 ≤ cp) (h2 : cp ≤ maxLen) : Rd (Y.alloc (.cells (news ++ z) t)) (.slice (some ⟨H, 0, none⟩) 1 cp) size 1 news.toList := by
  subst hH
  refine ⟨_, cp, rfl, h1, h2, by simpa using hl, fun _ => ⟨_, 0, rfl, by simp, fun j u hu => ?_⟩⟩
  rw [Nat.zero_add, (Blk.new Y t _).cell, Array.getElem?_append_left (by simpa using (List.getElem?_eq_some_iff.1 hu).1)]
  simpa using hu

/-- append onto nil: one element, in a new block. -/
theorem wp_app0 {P : Program} {ops : Array Oper} {rest : List Oper} {o : Oper} {a : Act} {Q : Exit → Act → World → Prop} (hgd : o.guard = none) (s x : Operand) (t e : TypeId) (size bytes : Nat) (z : Value)
    (ho : o.op = .call { callee := .builtin .append, args := #[s, x], argTypes := #[t, t] }) (ht : P.underlying t = some (.slice e))
    (hinfo : (P.info? e).map (fun i => (i.zero, i.size, i.bytes)) = some (some z, size, bytes)) (hzs : z.cells.size = size) (hsz : 0 < size) (hbytes : bytes ≤ 1000)
    (W : World) (hs : a.eval s = .slice none 0 0) (news : Array Value) (H : Nat) (hx : a.eval x = .slice (some ⟨H, 0, none⟩) 1 1) (hH : W.heap.size = H) (hl : news.size = size) (h1' : news.toList.all Value.oneCell' = true)
    (h : ∀ g c w', W.heap.size ≤ g → g < w'.heap.size → W.heap.size < w'.heap.size → Rd w' (.slice (some ⟨g, 0, none⟩) 1 c) size 1 news.toList → w'.ownsRow W.heap.size e size (.slice (some ⟨g, 0, none⟩) 1 c) 1 news.toList → Below W.heap.size W w' → wpList P ops Q rest (a.put o.dst (.slice (some ⟨g, 0, none⟩) 1 c)) w') :
    wpList P ops Q (o :: rest) a (W.alloc (.cells news e)) := by
  refine wp_app1k hgd s x t e size bytes z ho ht hinfo hzs hsz hbytes W W W.heap.size 0 _ [] hs news H hx hH (World.ownsRow_nil _ _ _ _) (World.ownsRow_nil _ _ _ _) (Nat.le_refl _) hl h1' (by omega) (Nat.le_refl _) ?_
  intro v' w' hown hb _ hs'
  obtain ⟨A, c, rfl, hg⟩ := own_open hown
  obtain ⟨g, rfl, h1, h2⟩ := hg (by omega)
  exact h g c w' h1 h2 hs' (Rd.of_own hown) hown hb

/-- The library's variable holds some number (strings.Index reads it). -/
def Mx (w : World) : Prop := 0 < w.heap.size ∧ ∃ m, w.cell? ⟨0, 0, none⟩ = some (.int .i64 m)
theorem Mx.below {w w' : World} {B : Nat} (h : Mx w) (hb : Below B w w') (hB : 0 < B) : Mx w' := by
  obtain ⟨h0, m, hm⟩ := h
  exact ⟨Nat.lt_of_lt_of_le h0 hb.size, m, (hb.cell (p := ⟨0, 0, none⟩) hB).trans hm⟩
theorem Mx.self {w w' : World} (h : Mx w) (hb : Below w.heap.size w w') : Mx w' := h.below hb h.1
theorem Mx.alloc {w : World} (h : Mx w) (o : Obj) : Mx (w.alloc o) := h.self ((Below.refl _ _).alloc (Nat.le_refl _) _)
theorem Mx.drewN {w : World} (h : Mx w) (n : Nat) : Mx (w.drewN n) := h

theorem info3 : (Tryz.prog.info? 3).map (fun i => (i.zero, i.size, i.bytes)) = some (some (.int .i64 0), 1, 8) := by kernel_rfl
theorem info9 : (Tryz.prog.info? 9).map (fun i => (i.zero, i.size, i.bytes)) = some (some (.string ⟨#[]⟩), 1, 16) := by kernel_rfl
theorem info22 : (Tryz.prog.info? 22).map (fun i => (i.zero, i.size, i.bytes)) = some (some (.slice none 0 0), 1, 24) := by kernel_rfl
theorem info24 : (Tryz.prog.info? 24).map (fun i => (i.zero, i.size, i.bytes)) = some (some (.slice none 0 0), 1, 24) := by kernel_rfl
theorem info55 : (Tryz.prog.info? 55).map (fun i => (i.zero, i.size, i.bytes)) = some (some (.slice none 0 0), 1, 24) := by kernel_rfl
theorem info49 : (Tryz.prog.info? 49).map (fun i => (i.zero, i.size, i.bytes)) = some (some (.agg #[.int .i64 0, .int .i64 0]), 2, 16) := by kernel_rfl
theorem info79 : (Tryz.prog.info? 79).map (fun i => (i.zero, i.size, i.bytes)) = some (some (.agg #[.bool false, .int .u32 0, .string ⟨#[]⟩]), 3, 24) := by kernel_rfl
theorem info81 : (Tryz.prog.info? 81).map (fun i => (i.zero, i.size, i.bytes)) = some (some (.agg #[.slice none 0 0, .slice none 0 0]), 2, 48) := by kernel_rfl
theorem info95 : (Tryz.prog.info? 95).map (fun i => (i.zero, i.size, i.bytes)) = some (some (.agg #[.int .i64 0, .int .i64 0, .int .i64 0, .int .i64 0]), 4, 32) := by kernel_rfl
theorem info5 : (Tryz.prog.info? 5).map (fun i => (i.zero, i.size, i.bytes)) = some (some (.int .u8 0), 1, 1) := by kernel_rfl
end Go.Proofs.YtbjbcfiieacamaaGreatDoor
