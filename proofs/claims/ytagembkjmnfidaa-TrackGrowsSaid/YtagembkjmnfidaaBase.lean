import Derived.Test.YtagembkjmnfidaaProg
import Derived.Test.YtagembkjmnfidaaSpec
import Derived.WalkKit
import Derived.WalkSpells
import Derived.WalkLawsBesides
import Derived.Handy
import Derived.BigQuiet
import Derived.Deep.QuietTactic
namespace Go.Proofs.Ytagembkjmnfidaa
open Go.RowKit
open Go.Proofs.Ml

theorem ret_int {k : IntKind} {a b : Int} (h : a = b) : Ending.returned (.int k a) = .returned (.int k b) := by rw [h]
theorem ret_bool {a b : Bool} (h : a = b) : Ending.returned (.bool a) = .returned (.bool b) := by rw [h]
theorem bcell {W w1 : World} (hb : Below W.heap.size W w1) : (∀ b o, b < W.heap.size → w1.cell? ⟨b, o, none⟩ = W.cell? ⟨b, o, none⟩) ∧ (∀ b o, b < W.heap.size → w1.frozen? ⟨b, o, none⟩ = W.frozen? ⟨b, o, none⟩) :=
  ⟨fun b o h => hb.cell (p := ⟨b, o, none⟩) h, fun b o h => hb.frozen (p := ⟨b, o, none⟩) h⟩

theorem hide {p : Prop} (h : p) : Hid p := h

/-! cells of lists -/
def chCells (c : Chg) : List Value := [.int .i64 c.o, .int .i64 c.ol, .int .i64 c.n, .int .i64 c.nl]
def spCells (c : Spn) : List Value := [.int .i64 c.f, .int .i64 c.t]
def hkCells (h : Hnk) : List Value := [.int .i64 h.fi, .int .i64 h.la, .int .i64 h.off, .int .i64 h.ot, .int .i64 h.nf, .int .i64 h.nt]
def chVals (l : List Chg) : List Value := l.flatMap chCells
def spVals (l : List Spn) : List Value := l.flatMap spCells
def hkVals (l : List Hnk) : List Value := l.flatMap hkCells
def inVals (l : List Int) : List Value := l.map (.int .i64)
def boVals (l : List Bool) : List Value := l.map .bool

theorem flatMap_get {α : Type} (f : α → List Value) (s : Nat) (hs : ∀ a, (f a).length = s) : ∀ (l : List α) (k j : Nat) (hk : k < l.length), j < s → (l.flatMap f)[k * s + j]? = (f l[k])[j]?
  | a :: l, 0, j, _, hj => by
    rw [List.flatMap_cons, List.getElem?_append_left (by rw [hs]; omega)]
    simp
  | a :: l, k + 1, j, hk, hj => by
    rw [List.flatMap_cons, List.getElem?_append_right (by rw [hs, Nat.add_mul]; omega), hs, show (k + 1) * s + j - s = k * s + j by rw [Nat.add_mul]; omega]
    rw [flatMap_get f s hs l k j (by simpa using hk) hj]
    simp
theorem flatMap_len {α : Type} (f : α → List Value) (s : Nat) (hs : ∀ a, (f a).length = s) (l : List α) : (l.flatMap f).length = l.length * s := by
  induction l with
  | nil => simp
  | cons a l ih => rw [List.flatMap_cons, List.length_append, hs, ih, List.length_cons, Nat.add_mul]; omega

theorem chVals_len (l : List Chg) : (chVals l).length = l.length * 4 := flatMap_len _ 4 (fun _ => rfl) l
theorem spVals_len (l : List Spn) : (spVals l).length = l.length * 2 := flatMap_len _ 2 (fun _ => rfl) l
theorem hkVals_len (l : List Hnk) : (hkVals l).length = l.length * 6 := flatMap_len _ 6 (fun _ => rfl) l
theorem inVals_len (l : List Int) : (inVals l).length = l.length * 1 := by simp [inVals]
theorem boVals_len (l : List Bool) : (boVals l).length = l.length * 1 := by simp [boVals]
theorem chVals_app (x y : List Chg) : chVals (x ++ y) = chVals x ++ chVals y := by simp [chVals]
theorem spVals_app (x y : List Spn) : spVals (x ++ y) = spVals x ++ spVals y := by simp [spVals]
theorem hkVals_app (x y : List Hnk) : hkVals (x ++ y) = hkVals x ++ hkVals y := by simp [hkVals]
theorem inVals_app (x y : List Int) : inVals (x ++ y) = inVals x ++ inVals y := by simp [inVals]
theorem boVals_app (x y : List Bool) : boVals (x ++ y) = boVals x ++ boVals y := by simp [boVals]

/-- The slice value v of n elements of 'size' cells each reads as the cells cs. -/
def Rd (w : World) (v : Value) (size n : Nat) (cs : List Value) : Prop :=
  ∃ A cap, v = .slice A n cap ∧ n ≤ cap ∧ cap ≤ maxLen ∧ cs.length = n * size ∧ (0 < n → ∃ b off, A = some ⟨b, off, none⟩ ∧ b < w.heap.size ∧ ∀ j u, cs[j]? = some u → w.cell? ⟨b, off + j, none⟩ = some u)

theorem Rd.below {w w' : World} {v : Value} {size n : Nat} {cs : List Value} {B : Nat} (h : Rd w v size n cs) (hb : Below B w w') (hB : w.heap.size ≤ B) : Rd w' v size n cs := by
  obtain ⟨A, cap, hv, h1, h1', h2, h3⟩ := h
  refine ⟨A, cap, hv, h1, h1', h2, fun hn => ?_⟩
  obtain ⟨b, off, hA, hbl, hc⟩ := h3 hn
  exact ⟨b, off, hA, Nat.lt_of_lt_of_le hbl hb.size, fun j u hu => (hb.cell (p := ⟨b, off + j, none⟩) (Nat.lt_of_lt_of_le hbl hB)).trans (hc j u hu)⟩

/-- The two cases of a slice that is read. -/
theorem Rd.cases {w : World} {v : Value} {size n : Nat} {cs : List Value} (h : Rd w v size n cs) :
    (∃ A cap, v = .slice A 0 cap ∧ n = 0 ∧ cap ≤ maxLen) ∨ (0 < n ∧ ∃ b off cap, v = .slice (some ⟨b, off, none⟩) n cap ∧ n ≤ cap ∧ cap ≤ maxLen ∧ b < w.heap.size ∧ ∀ j u, cs[j]? = some u → w.cell? ⟨b, off + j, none⟩ = some u) := by
  obtain ⟨A, cap, hv, h1, h1', h2, h3⟩ := h
  rcases Nat.eq_zero_or_pos n with h0 | h0
  · subst h0; exact .inl ⟨A, cap, hv, rfl, h1'⟩
  · obtain ⟨b, off, rfl, hbl, hc⟩ := h3 h0
    exact .inr ⟨h0, b, off, cap, hv, h1, h1', hbl, hc⟩

theorem add_head (g j : Nat) : (⟨g, 0, none⟩ : Addr).add j = ⟨g, j, none⟩ := by unfold Addr.add; split <;> simp_all

theorem Rd.of_own {w : World} {base : Nat} {e : TypeId} {size n : Nat} {v : Value} {cs : List Value} (h : w.ownsRow base e size v n cs) : Rd w v size n cs := by
  rcases h.2 with ⟨rfl, rfl⟩ | ⟨g, cap, cur, rfl, _, hg, hn, hcap, _, _⟩
  · exact ⟨none, 0, rfl, Nat.le_refl _, by simp, h.1, fun h => absurd h (by omega)⟩
  · refine ⟨_, cap, rfl, hn, hcap, h.1, fun _ => ⟨g, 0, rfl, (Array.getElem?_eq_some_iff.1 hg).1, fun j u hu => ?_⟩⟩
    have := h.cells (g := g) rfl j u hu
    rwa [add_head, ← Nat.zero_add j] at this

theorem ch_cells {w wr : World} {b off : Nat} {l : List Chg} (hc : ∀ j u, (chVals l)[j]? = some u → w.cell? ⟨b, off + j, none⟩ = some u) (hb : b < w.heap.size) (hbel : Below w.heap.size w wr) {k : Nat} (hk : k < l.length) :
    wr.cell? ⟨b, off + k * 4, none⟩ = some (.int .i64 l[k].o) ∧ wr.cell? ⟨b, off + k * 4 + 1, none⟩ = some (.int .i64 l[k].ol) ∧ wr.cell? ⟨b, off + k * 4 + 2, none⟩ = some (.int .i64 l[k].n) ∧ wr.cell? ⟨b, off + k * 4 + 3, none⟩ = some (.int .i64 l[k].nl) := by
  have key : ∀ j u, j < 4 → (chCells l[k])[j]? = some u → wr.cell? ⟨b, off + (k * 4 + j), none⟩ = some u := fun j u hj hu =>
    (hbel.cell (p := ⟨b, off + (k * 4 + j), none⟩) hb).trans (hc (k * 4 + j) _ ((flatMap_get chCells 4 (fun _ => rfl) l k j hk hj).trans hu))
  exact ⟨key 0 _ (by omega) rfl, key 1 _ (by omega) rfl, key 2 _ (by omega) rfl, key 3 _ (by omega) rfl⟩
theorem sp_cells {w wr : World} {b off : Nat} {l : List Spn} (hc : ∀ j u, (spVals l)[j]? = some u → w.cell? ⟨b, off + j, none⟩ = some u) (hb : b < w.heap.size) (hbel : Below w.heap.size w wr) {k : Nat} (hk : k < l.length) :
    wr.cell? ⟨b, off + k * 2, none⟩ = some (.int .i64 l[k].f) ∧ wr.cell? ⟨b, off + k * 2 + 1, none⟩ = some (.int .i64 l[k].t) := by
  have key : ∀ j u, j < 2 → (spCells l[k])[j]? = some u → wr.cell? ⟨b, off + (k * 2 + j), none⟩ = some u := fun j u hj hu =>
    (hbel.cell (p := ⟨b, off + (k * 2 + j), none⟩) hb).trans (hc (k * 2 + j) _ ((flatMap_get spCells 2 (fun _ => rfl) l k j hk hj).trans hu))
  exact ⟨key 0 _ (by omega) rfl, key 1 _ (by omega) rfl⟩
theorem hk_cells {w wr : World} {b off : Nat} {l : List Hnk} (hc : ∀ j u, (hkVals l)[j]? = some u → w.cell? ⟨b, off + j, none⟩ = some u) (hb : b < w.heap.size) (hbel : Below w.heap.size w wr) {k : Nat} (hk : k < l.length) :
    wr.cell? ⟨b, off + k * 6, none⟩ = some (.int .i64 l[k].fi) ∧ wr.cell? ⟨b, off + k * 6 + 1, none⟩ = some (.int .i64 l[k].la) ∧ wr.cell? ⟨b, off + k * 6 + 2, none⟩ = some (.int .i64 l[k].off) ∧ wr.cell? ⟨b, off + k * 6 + 3, none⟩ = some (.int .i64 l[k].ot) ∧ wr.cell? ⟨b, off + k * 6 + 4, none⟩ = some (.int .i64 l[k].nf) ∧ wr.cell? ⟨b, off + k * 6 + 5, none⟩ = some (.int .i64 l[k].nt) := by
  have key : ∀ j u, j < 6 → (hkCells l[k])[j]? = some u → wr.cell? ⟨b, off + (k * 6 + j), none⟩ = some u := fun j u hj hu =>
    (hbel.cell (p := ⟨b, off + (k * 6 + j), none⟩) hb).trans (hc (k * 6 + j) _ ((flatMap_get hkCells 6 (fun _ => rfl) l k j hk hj).trans hu))
  exact ⟨key 0 _ (by omega) rfl, key 1 _ (by omega) rfl, key 2 _ (by omega) rfl, key 3 _ (by omega) rfl, key 4 _ (by omega) rfl, key 5 _ (by omega) rfl⟩
theorem in_cells {w wr : World} {b off : Nat} {l : List Int} (hc : ∀ j u, (inVals l)[j]? = some u → w.cell? ⟨b, off + j, none⟩ = some u) (hb : b < w.heap.size) (hbel : Below w.heap.size w wr) {k : Nat} (hk : k < l.length) :
    wr.cell? ⟨b, off + k, none⟩ = some (.int .i64 l[k]) :=
  (hbel.cell (p := ⟨b, off + k, none⟩) hb).trans (hc k _ (by simp [inVals]))
theorem bo_cells {w wr : World} {b off : Nat} {l : List Bool} (hc : ∀ j u, (boVals l)[j]? = some u → w.cell? ⟨b, off + j, none⟩ = some u) (hb : b < w.heap.size) (hbel : Below w.heap.size w wr) {k : Nat} (hk : k < l.length) :
    wr.cell? ⟨b, off + k, none⟩ = some (.bool l[k]) :=
  (hbel.cell (p := ⟨b, off + k, none⟩) hb).trans (hc k _ (by simp [boVals]))

/-- The call hands back a list of its own making. -/
def RetRow (w : World) (e : TypeId) (size n : Nat) (cs : List Value) (x : Ending) (w' : World) : Prop := ∃ v, x = .returned v ∧ w'.ownsRow w.heap.size e size v n cs ∧ Below w.heap.size w w'

theorem new_cell (w : World) (cs : Array Value) (t : TypeId) (j : Nat) : (w.alloc (.cells cs t)).cell? ⟨w.heap.size, j, none⟩ = cs[j]? := cell_of_row _ _ j cs t (0, 0) (heap_alloc_new w _)

/-- append(out, x): one element more, onto a list of the call's own. wr: the world in which the list is known to lie; W: behind it, with x's cells in its newest block. -/
theorem wp_app1 {P : Program} {ops : Array Oper} {rest : List Oper} {o : Oper} {a : Act} {Q : Exit → Act → World → Prop} (hgd : o.guard = none) (s x : Operand) (t e : TypeId) (size bytes : Nat) (z : Value)
    (ho : o.op = .call { callee := .builtin .append, args := #[s, x], argTypes := #[t, t] }) (ht : P.underlying t = some (.slice e))
    (hinfo : (P.info? e).map (fun i => (i.zero, i.size, i.bytes)) = some (some z, size, bytes)) (hzs : z.cells.size = size) (hsz : 0 < size) (hbytes : bytes ≤ 1000)
    (wr W : World) (base n : Nat) (v : Value) (xs : List Value) (hs : a.eval s = v) (news : Array Value) (H : Nat) (hx : a.eval x = .slice (some ⟨H, 0, none⟩) 1 1) (hH : W.heap.size = H)
    (hown : wr.ownsRow base e size v n xs) (hkeep : W.ownsRow base e size v n xs) (hsize : wr.heap.size ≤ W.heap.size) (hl : news.size = size) (h1' : news.toList.all Value.oneCell' = true) (hn : n ≤ 1000000) (hbase : base ≤ wr.heap.size)
    (h : ∀ v' w', w'.ownsRow base e size v' (n + 1) (xs ++ news.toList) → Below base W w' → (∀ b o, wr.heap.size ≤ b → b < W.heap.size → w'.cell? ⟨b, o, none⟩ = W.cell? ⟨b, o, none⟩) → W.heap.size < w'.heap.size → wpList P ops Q rest (a.put o.dst v') w') :
    wpList P ops Q (o :: rest) a (W.alloc (.cells news e)) := by
  subst hH
  have h1 : ∀ u ∈ news.toList, u.oneCell' = true := List.all_eq_true.1 h1'
  obtain ⟨i0, hi, hz0, hz1, hz2⟩ := info_parts hinfo
  have hown2 : (W.alloc (.cells news e)).ownsRow base e size v n xs := hkeep.alloc _
  have hb0 : ∀ k, v.ownBlock = some k → base ≤ k ∧ k < wr.heap.size := hown.lt
  have hbn : (n + 1) * bytes ≤ 140737488355328 := Nat.le_trans (Nat.mul_le_mul (show n + 1 ≤ 1000001 by omega) hbytes) (by decide)
  refine wpList_append_own (W.alloc (.cells news e)) hgd s x t ho base e i0 z size bytes ht hi hz0 hz1 hz2 hzs hsz v n xs hs hown2 ⟨W.heap.size, 0, none⟩ 1 1 news.toList hx (by simpa using hl) ?_ h1 (by simp only [maxLen]; omega) hbn (by simp; omega) ?_
  · intro j u hu
    have hc := cell_of_row (W.alloc (.cells news e)) W.heap.size j news e (0, 0) (heap_alloc_new W _)
    rw [add_head, hc]
    simpa using hu
  · intro v' w' hown' hg _
    have hsz' := hg.size
    simp at hsz'
    refine h v' w' hown' ?_ ?_ (by omega)
    · refine ((Below.refl base W).alloc (by omega) _).grown hg (by simp; omega) fun k hk => (hb0 k hk).1
    · intro b o h1 h2
      have hne : some b ≠ v.ownBlock := fun e => by have := (hb0 b e.symm).2; omega
      have e1 := World.cell?_of_block (w := W.alloc (.cells news e)) (w' := w') (a := ⟨b, o, none⟩) (hg.block b (by simp; omega) hne)
      rw [e1]
      exact World.cell?_alloc_lt W _ ⟨b, o, none⟩ h2

theorem own_ch {w : World} {B : Nat} {v : Value} {L : List Chg} {c : Chg} (h : w.ownsRow B 45 4 v (L.length + 1) (chVals L ++ chCells c)) : w.ownsRow B 45 4 v (L ++ [c]).length (chVals (L ++ [c])) := by
  rw [chVals_app, List.length_append]; simpa [chVals] using h
theorem own_sp {w : World} {B : Nat} {v : Value} {L : List Spn} {c : Spn} (h : w.ownsRow B 35 2 v (L.length + 1) (spVals L ++ spCells c)) : w.ownsRow B 35 2 v (L ++ [c]).length (spVals (L ++ [c])) := by
  rw [spVals_app, List.length_append]; simpa [spVals] using h
theorem own_hk {w : World} {B : Nat} {v : Value} {L : List Hnk} {c : Hnk} (h : w.ownsRow B 37 6 v (L.length + 1) (hkVals L ++ hkCells c)) : w.ownsRow B 37 6 v (L ++ [c]).length (hkVals (L ++ [c])) := by
  rw [hkVals_app, List.length_append]; simpa [hkVals] using h
theorem own_in {w : World} {B : Nat} {v : Value} {L : List Int} {c : Int} (h : w.ownsRow B 3 1 v (L.length + 1) (inVals L ++ [.int .i64 c])) : w.ownsRow B 3 1 v (L ++ [c]).length (inVals (L ++ [c])) := by
  rw [inVals_app, List.length_append]; simpa [inVals] using h
theorem ret_row {w : World} {e : TypeId} {size n n' : Nat} {cs cs' : List Value} {v : Value} {w' : World} (h : w'.ownsRow w.heap.size e size v n' cs') (hb : Below w.heap.size w w') (hn : n' = n) (hcs : cs' = cs) : RetRow w e size n cs (.returned v) w' := by
  subst hn; subst hcs; exact ⟨v, rfl, h, hb⟩
theorem own_drewN {w : World} {B : Nat} {e : TypeId} {size n : Nat} {v : Value} {cs : List Value} (h : w.ownsRow B e size v n cs) (k : Nat) : (w.drewN k).ownsRow B e size v n cs := h
theorem own_base {w : World} {B B' : Nat} {e : TypeId} {size n : Nat} {v : Value} {cs : List Value} (h : w.ownsRow B e size v n cs) (hB : B' ≤ B) : w.ownsRow B' e size v n cs := by
  refine ⟨h.1, ?_⟩
  rcases h.2 with h2 | ⟨g, cap, cur, hv, hg, r⟩
  · exact .inl h2
  · exact .inr ⟨g, cap, cur, hv, Nat.le_trans hB hg, r⟩
theorem below_drewN {B : Nat} {a w : World} (h : Below B a w) (n : Nat) : Below B a (w.drewN n) := ⟨h.os, h.tape, h.output, h.size, h.block⟩

theorem info45 : (Try.prog.info? 45).map (fun i => (i.zero, i.size, i.bytes)) = some (some (.agg #[.int .i64 0, .int .i64 0, .int .i64 0, .int .i64 0]), 4, 32) := by kernel_rfl
theorem info35 : (Try.prog.info? 35).map (fun i => (i.zero, i.size, i.bytes)) = some (some (.agg #[.int .i64 0, .int .i64 0]), 2, 16) := by kernel_rfl
theorem info3 : (Try.prog.info? 3).map (fun i => (i.zero, i.size, i.bytes)) = some (some (.int .i64 0), 1, 8) := by kernel_rfl
theorem info4 : (Try.prog.info? 4).map (fun i => (i.zero, i.size, i.bytes)) = some (some (.bool false), 1, 1) := by kernel_rfl
theorem info37 : (Try.prog.info? 37).map (fun i => (i.zero, i.size, i.bytes)) = some (some (.agg #[.int .i64 0, .int .i64 0, .int .i64 0, .int .i64 0, .int .i64 0, .int .i64 0]), 6, 48) := by kernel_rfl
end Go.Proofs.Ytagembkjmnfidaa
