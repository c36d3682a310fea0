import Derived.Test.YtagembkjmnfidaaBaseJ
import Derived.Test.YtagembkjmnfidaaSpecH
namespace Go.Proofs.Ytagembkjmnfidaa
open Go.RowKit
open Go.Proofs.Ml
set_option linter.unusedVariables false

theorem chVals_one (l : List Chg) : ∀ u ∈ chVals l, u.oneCell' = true := by
  intro u hu
  simp only [chVals, List.mem_flatMap] at hu
  obtain ⟨c, _, h⟩ := hu
  simp only [chCells, List.mem_cons, List.not_mem_nil, or_false] at h
  rcases h with rfl | rfl | rfl | rfl <;> rfl
theorem spVals_one (l : List Spn) : ∀ u ∈ spVals l, u.oneCell' = true := by
  intro u hu
  simp only [spVals, List.mem_flatMap] at hu
  obtain ⟨c, _, h⟩ := hu
  simp only [spCells, List.mem_cons, List.not_mem_nil, or_false] at h
  rcases h with rfl | rfl <;> rfl
/-- append(v, x...) where x reads as cells, nil let in: what the run yields. -/
theorem app_list_run {P : Program} (W : World) (base : Nat) (t ty e : TypeId) (size bytes : Nat) (z : Value) (ht : P.underlying t = some (.slice e))
    (hinfo : (P.info? e).map (fun i => (i.zero, i.size, i.bytes)) = some (some z, size, bytes)) (hzs : z.cells.size = size) (hsz : 0 < size) (hbytes : bytes ≤ 1000)
    (n : Nat) (v : Value) (xs : List Value) (hown : W.ownsRow base e size v n xs) (A : Option Addr) (m c : Nat) (news : List Value) (hrd : Rd W (.slice A m c) size m news) (h1 : ∀ u ∈ news, u.oneCell' = true) (hn : n + m ≤ 1000000) (hbase : base ≤ W.heap.size) :
    ∃ v' w', (Builtin.append_ #[t, t] ty #[v, .slice A m c]).run P W = .ok v' w' ∧ w'.ownsRow base e size v' (n + m) (xs ++ news) ∧ W.grownBy w' v.ownBlock := by
  obtain ⟨i0, hi, hz0, hz1, hz2⟩ := info_parts hinfo
  obtain ⟨A', c', hv, _, _, hlen, hA⟩ := hrd
  injection hv with e1 _ e3
  subst e1
  subst e3
  have hbn : (n + m) * bytes ≤ 140737488355328 := Nat.le_trans (Nat.mul_le_mul (show n + m ≤ 1000001 by omega) hbytes) (by decide)
  rcases Nat.eq_zero_or_pos m with h0 | h0
  · subst h0
    have hnil : news = [] := List.eq_nil_of_length_eq_zero (by simpa using hlen)
    subst hnil
    rcases A with _ | ad
    · refine ⟨v, W, ?_, by simpa using hown, only_refl _ _⟩
      rcases hown.2 with ⟨rfl, rfl⟩ | ⟨g, cap, cur, rfl, _, _, hnc, _⟩
      · simp [Builtin.append_, run_underlying ht, sizeOf, typeInfo, hi, Builtin.lenOf, Builtin.firstCells]
      · simp [Builtin.append_, run_underlying ht, sizeOf, typeInfo, hi, Builtin.lenOf, Builtin.firstCells, hnc, storeCells]
    · obtain ⟨v', w', hr, h2, h3, _⟩ := run_append_own (P := P) W base t ty e i0 z size bytes ht hi hz0 hz1 hz2 hzs hsz v n xs hown ad 0 c [] (by simp) (fun j u hu => by simp at hu) h1 (by simp only [maxLen]; omega) hbn hbase
      exact ⟨v', w', hr, h2, h3⟩
  · obtain ⟨b, off, rfl, hb, hc⟩ := hA h0
    obtain ⟨v', w', hr, h2, h3, _⟩ := run_append_own (P := P) W base t ty e i0 z size bytes ht hi hz0 hz1 hz2 hzs hsz v n xs hown ⟨b, off, none⟩ m c news hlen (fun j u hu => by
      have e1 : (⟨b, off, none⟩ : Addr).add j = ⟨b, off + j, none⟩ := by unfold Addr.add; split <;> simp_all
      rw [e1]; exact hc j u hu) h1 (by simp only [maxLen]; omega) hbn hbase
    exact ⟨v', w', hr, h2, h3⟩
theorem wp_appR {P : Program} {ops : Array Oper} {rest : List Oper} {o : Oper} {a : Act} {Q : Exit → Act → World → Prop} (hgd : o.guard = none) (s x : Operand) (t e : TypeId) (size bytes : Nat) (z : Value)
    (ho : o.op = .call { callee := .builtin .append, args := #[s, x], argTypes := #[t, t] }) (ht : P.underlying t = some (.slice e))
    (hinfo : (P.info? e).map (fun i => (i.zero, i.size, i.bytes)) = some (some z, size, bytes)) (hzs : z.cells.size = size) (hsz : 0 < size) (hbytes : bytes ≤ 1000)
    (W : World) (base n : Nat) (v : Value) (xs : List Value) (hs : a.eval s = v) (hown : W.ownsRow base e size v n xs) (A : Option Addr) (m c : Nat) (news : List Value) (hx : a.eval x = .slice A m c) (hrd : Rd W (.slice A m c) size m news) (h1 : ∀ u ∈ news, u.oneCell' = true) (hn : n + m ≤ 1000000) (hbase : base ≤ W.heap.size)
    (h : ∀ v' w', w'.ownsRow base e size v' (n + m) (xs ++ news) → Below base W w' → W.heap.size ≤ w'.heap.size → wpList P ops Q rest (a.put o.dst v') w') :
    wpList P ops Q (o :: rest) a W := by
  obtain ⟨v', w', hr, h2, h3⟩ := app_list_run (P := P) W base t o.type e size bytes z ht hinfo hzs hsz hbytes n v xs hown A m c news hrd h1 hn hbase
  refine wpList_plain hgd fun _ hK => ?_
  unfold Oper.wp execOp
  simp only [ho, resolve, invoke, builtin, Sem.run_bind, Sem.run_pure, Result.andThen_ok, List.map_toArray, List.map_cons, List.map_nil, hs, hx, hr]
  exact hK _ _ (h v' w' h2 ((Below.refl base W).grown h3 hbase fun k hk => (hown.lt k hk).1) h3.size)
/-- Both fields of one span of a list of the call's own are stored anew. -/
theorem own_sp_set {w : World} {B g n cap : Nat} {l : List Spn} (h : w.ownsRow B 35 2 (.slice (some ⟨g, 0, none⟩) n cap) n (spVals l)) (k : Nat) (c : Spn) (hk : k < l.length) :
    ((w.setCell ⟨g, k * 2, none⟩ (.int .i64 c.f)).setCell ⟨g, k * 2 + 1, none⟩ (.int .i64 c.t)).ownsRow B 35 2 (.slice (some ⟨g, 0, none⟩) n cap) n (spVals (l.set k c)) := by
  have h1 := ((h.stored (k * 2) (.int .i64 c.f)).1.stored (k * 2 + 1) (.int .i64 c.t)).1
  rw [show (spVals l).set (k * 2) (.int .i64 c.f) = spVals (l.set k ⟨c.f, l[k].t⟩) from flatMap_set spCells 2 (fun _ => rfl) l k 0 _ ⟨c.f, l[k].t⟩ hk (by omega) rfl] at h1
  rw [show (spVals (l.set k ⟨c.f, l[k].t⟩)).set (k * 2 + 1) (.int .i64 c.t) = spVals ((l.set k ⟨c.f, l[k].t⟩).set k c) from flatMap_set spCells 2 (fun _ => rfl) (l.set k ⟨c.f, l[k].t⟩) k 1 _ c (by simpa using hk) (by omega) (by simp [spCells])] at h1
  rwa [List.set_set] at h1
end Go.Proofs.Ytagembkjmnfidaa
namespace Go.Proofs.Ml
theorem valid_more {l : List Chg} {m n : Int} (h : valid l m n = true) : valid l m (n + 1) = false := by
  rw [← Bool.not_eq_true, valid_iff]
  intro h2
  have h1 := (valid_iff.1 h).2.2
  have h3 := h2.2.2
  have : ∀ (l : List Chg) (b : Bool) (i j : Int), Val b i j l m n → Val b i j l m (n + 1) → False := by
    intro l
    induction l with
    | nil => intro b i j a1 a2; have e1 := a1.1; have e2 := a2.1; omega
    | cons c l ih => intro b i j a1 a2; exact ih _ _ _ a1.2 a2.2
  exact this l true 0 0 h1 h3
theorem fpRes_len (p : List Spn) (m n : Int) : (fpRes p m n).length ≤ 8192 := by
  unfold fpRes
  split
  · rename_i h
    rw [Bool.and_eq_true, inL_iff, inL_iff] at h
    split
    · rename_i ha
      have := (valid_val (made_valid ha h.1.2 h.2.2)).length
      omega
    · simp
  · simp
end Go.Proofs.Ml
