import Derived.Test.YtagembkjmnfidaaSec
import Derived.Test.YtagembkjmnfidaaBaseE
import Derived.Deep.OwnRows
import Derived.RegionTactic
import Derived.ChangeAlike
import Derived.BigRegion
import Derived.BigQuiet
import Derived.Test.YtagembkjmnfidaaMade
import Derived.Test.YtagembkjmnfidaaSpecK
namespace Go.Proofs.Ytagembkjmnfidaa
open Go.RowKit
open Go.Proofs.Ml
set_option linter.unusedVariables false

/-- The rows of the table: row r's value. -/
def rowV (B m n : Nat) (r : Nat) : Value := .slice (some ⟨B + 1 + (m - r), 0, none⟩) (n + 1) (n + 1)
def topV (B m n i : Nat) (r : Nat) : Value := if i ≤ r then rowV B m n r else .slice none 0 0
/-- The rows from i on are made. -/
structure Tab (w : World) (m n i : Nat) (wr : World) : Prop where
  since : Below w.heap.size w wr
  size : wr.heap.size = w.heap.size + 1 + (m + 1 - i)
  top : wr.rowIs w.heap.size 22 (m + 1) (topV w.heap.size m n i)
  rows : ∀ r, i ≤ r → r ≤ m → ∃ R : Nat → Int, R n = (m : Int) - r ∧ wr.rowIs (w.heap.size + 1 + (m - r)) 3 (n + 1) (fun j => .int .i64 (R j))
/-- Row i is in work: its columns from j on are made. -/
structure TabI (w : World) (m n i j : Nat) (R : Nat → Int) (wr : World) : Prop where
  since : Below w.heap.size w wr
  size : wr.heap.size = w.heap.size + 1 + (m + 1 - i)
  top : wr.rowIs w.heap.size 22 (m + 1) (topV w.heap.size m n i)
  rows : ∀ r, i < r → r ≤ m → ∃ R : Nat → Int, R n = (m : Int) - r ∧ wr.rowIs (w.heap.size + 1 + (m - r)) 3 (n + 1) (fun j => .int .i64 (R j))
  cur : wr.rowIs (w.heap.size + 1 + (m - i)) 3 (n + 1) (fun j => .int .i64 (R j))
  last : j ≤ n → R n = (m : Int) - i
theorem Tab.start (w : World) (m n : Nat) : Tab w m n (m + 1) (w.alloc (.cells (madeCells #[.slice none 0 0] (m + 1)) 22)) :=
  ⟨(Below.refl _ _).alloc (Nat.le_refl _) _, by simp, (World.rowIs_made w _ (m + 1) 22).congr (fun r hr => by unfold topV; rw [if_neg (by omega)]), fun r h1 h2 => by omega⟩
theorem Tab.row {w wr : World} {m n i : Nat} (h : Tab w m n (i + 1) wr) (hi : i ≤ m) : TabI w m n i (n + 1) (fun _ => 0) ((wr.alloc (.cells (madeCells #[.int .i64 0] (n + 1)) 3)).setCell ⟨w.heap.size, i, none⟩ (rowV w.heap.size m n i)) := by
  have hs : wr.heap.size = w.heap.size + 1 + (m - i) := by rw [h.size]; omega
  refine ⟨(h.since.alloc h.since.size _).setCell (Nat.le_refl _) _, ?_, ?_, ?_, ?_, fun hh => by omega⟩
  · simp [World.setCell]; omega
  · refine ((h.top.alloc _).set i _).congr fun r hr => ?_
    by_cases hr2 : r = i
    · subst hr2; simp [topV]
    · rw [if_neg hr2]; unfold topV
      by_cases h3 : i + 1 ≤ r
      · rw [if_pos h3, if_pos (by omega)]
      · rw [if_neg h3, if_neg (by omega)]
  · intro r h1 h2
    obtain ⟨R, hR, hrow⟩ := h.rows r h1 h2
    exact ⟨R, hR, (hrow.alloc _).setOther (by show _ ≠ w.heap.size; omega) _⟩
  · have := World.rowIs_made wr (.int .i64 0) (n + 1) 3
    rw [hs] at this
    exact this.setOther (by show _ ≠ w.heap.size; omega) _
theorem TabI.put {w wr : World} {m n i j : Nat} {R : Nat → Int} (h : TabI w m n i (j + 1) R wr) (hi : i ≤ m) (u : Int) (hu : j = n → u = (m : Int) - i) : TabI w m n i j (fun x => if x = j then u else R x) (wr.setCell ⟨w.heap.size + 1 + (m - i), j, none⟩ (.int .i64 u)) := by
  refine ⟨h.since.setCell (by show _ ≤ w.heap.size + 1 + (m - i); omega) _, ?_, h.top.setOther (by show _ ≠ w.heap.size + 1 + (m - i); omega) _, ?_, ?_, ?_⟩
  · rw [← h.size]; simp [World.setCell]
  · intro r h1 h2
    obtain ⟨R', hR, hrow⟩ := h.rows r h1 h2
    exact ⟨R', hR, hrow.setOther (by show _ ≠ w.heap.size + 1 + (m - i); omega) _⟩
  · refine (h.cur.set j _).congr fun x hx => ?_
    by_cases e : x = j
    · simp [e]
    · simp [e]
  · intro hj
    by_cases e : n = j
    · rw [if_pos e]; exact hu e.symm
    · rw [if_neg e]; exact h.last (by omega)
theorem TabI.done {w wr : World} {m n i : Nat} {R : Nat → Int} (h : TabI w m n i 0 R wr) : Tab w m n i wr :=
  ⟨h.since, h.size, h.top, fun r h1 h2 => by
    rcases Nat.eq_or_lt_of_le h1 with rfl | h3
    · exact ⟨R, h.last (Nat.zero_le _), h.cur⟩
    · exact h.rows r h3 h2⟩
end Go.Proofs.Ytagembkjmnfidaa
namespace Go.Proofs.Ytagembkjmnfidaa
open Go.RowKit
open Go.Proofs.Ml
set_option linter.unusedVariables false

theorem rinfo22 : (Try.prog.info? 22).map (fun i => (i.zero, i.size, i.bytes)) = some (some (.slice none 0 0), 1, 24) := by kernel_rfl

set_option maxRecDepth 100000 in
set_option maxHeartbeats 3200000 in
theorem table93 (va vb : Value) (a b : List Int) (w : World) (hra : Rd w va 1 a.length (inVals a)) (hrb : Rd w vb 1 b.length (inVals b)) (ha : a.length ≤ 100) (hb : b.length ≤ 100) :
    Calls Try.prog 93 #[va, vb] w fun e w' => e = .returned (.slice (some ⟨w.heap.size, 0, none⟩) (a.length + 1) (a.length + 1)) ∧ Tab w a.length b.length 0 w' := by
  obtain ⟨Aa, ca, rfl, _, _, _, hAa⟩ := hra
  obtain ⟨Ab, cb, rfl, _, _, _, hAb⟩ := hrb
  have HAa := hide hAa
  have HAb := hide hAb
  obtain ⟨M1, hM1⟩ : ∃ y, y = a.length + 1 := ⟨_, rfl⟩
  obtain ⟨N1, hN1⟩ : ∃ y, y = b.length + 1 := ⟨_, rfl⟩
  have HM1 := hide hM1
  have HN1 := hide hN1
  have e0 : IntKind.i64.wrap ((a.length : Int) + 1) = (M1 : Int) := by rw [IntWalk.i64_in _ (by omega)]; omega
  have e1 : IntKind.i64.wrap ((b.length : Int) + 1) = (N1 : Int) := by rw [IntWalk.i64_in _ (by omega)]; omega
  have hmk := run_make_row' (P := Try.prog) 108 22 (.slice none 0 0) 24 Try.underlying108 rinfo22 rfl .i64 .i64 M1 (by omega) (by omega)
  have hmk2 := run_make_row' (P := Try.prog) 22 3 (.int .i64 0) 8 Try.underlying22 info3 rfl .i64 .i64 N1 (by omega) (by omega)
  have HT0 := hide (Tab.start w a.length b.length)
  rw [← hM1] at HT0
  clear hAa hAb hM1 hN1
  go_enter Try.func93, Try.ntmps93
  go_wp2_with fail
  go_loopw [6, 7] (fun i j wr => ∃ (z : Int) (J : Nat), i = .int .i64 z ∧ z = (J : Int) - 1 ∧ J ≤ a.length + 1 ∧ Tab w a.length b.length J wr)
    (fun i _ _ => (intOf i + 1).toNat)
  case atStart => exact ⟨_, M1, rfl, by have := HM1.out; omega, by have := HM1.out; omega, HT0.out⟩
  case round =>
    obtain ⟨wo, rfl⟩ : ∃ wo : World, wo = wr := ⟨_, rfl⟩
    obtain ⟨z, J, rfl, hz, hJ, ht⟩ := hrel
    by_cases h0 : 0 ≤ z
    · obtain ⟨P, rfl⟩ := Int.eq_ofNat_of_zero_le h0
      obtain rfl : J = P + 1 := by omega
      have hs1 : ∀ o, (wo.alloc o).cell? ⟨w.heap.size, P, none⟩ = some (topV w.heap.size a.length b.length (P + 1) P) := fun o => (ht.top.alloc o).cell (by omega)
      have hs2 : ∀ o, (wo.alloc o).frozen? ⟨w.heap.size, P, none⟩ = false := fun o => (ht.top.alloc o).frozen P
      have k0 : (0 : Int) ≤ (P : Int) := by omega
      have k1 : (P : Int) < (M1 : Int) := by have := HM1.out; omega
      have hsz : w.heap.size + 1 + (a.length - P) = wo.heap.size := by rw [ht.size]; omega
      have hR := ht.row (show P ≤ a.length by omega)
      unfold rowV at hR
      rw [hsz, ← HN1.out] at hR
      have HR := hide hR
      have HSZ := hide hsz
      clear hR hsz
      have e2 := IntWalk.i64_in ((P : Int) - 1) (by omega)
      clear hz ht hmk
      go_wp2_with fail
      go_loopw [7] (fun j wr => ∃ (z : Int) (J : Nat) (R : Nat → Int), j = .int .i64 z ∧ z = (J : Int) - 1 ∧ J ≤ N1 ∧ TabI w a.length b.length P J R wr)
        (fun j _ => (intOf j + 1).toNat)
      case atStart => exact ⟨_, N1, _, rfl, by have := HN1.out; omega, Nat.le_refl _, HR.out⟩
      case round =>
        obtain ⟨wp_, rfl⟩ : ∃ x : World, x = wr := ⟨_, rfl⟩
        obtain ⟨z, J, R, rfl, hz, hJ, ht⟩ := hrel
        by_cases h1 : 0 ≤ z
        · obtain ⟨Q, rfl⟩ := Int.eq_ofNat_of_zero_le h1
          obtain rfl : J = Q + 1 := by omega
          have hQ : Q ≤ b.length := by have := HN1.out; omega
          have hP : P ≤ a.length := by have := HM1.out; omega
          have e3 := IntWalk.i64_in ((Q : Int) - 1) (by omega)
          have t0 : wp_.cell? ⟨w.heap.size, P, none⟩ = some (.slice (some ⟨wo.heap.size, 0, none⟩) N1 N1) := by
            have := ht.top.cell (show P < a.length + 1 by omega)
            rw [this, topV, if_pos (Nat.le_refl _), rowV, HSZ.out, ← HN1.out]
          have hc := ht.cur
          rw [HSZ.out, ← HN1.out] at hc
          have c0 := hc.cell (show Q < N1 by have := HN1.out; omega)
          have z0 := hc.frozen Q
          have q0 : (0 : Int) ≤ (Q : Int) := by omega
          have q1 : (Q : Int) < (N1 : Int) := by have := HN1.out; omega
          have HPUT := hide (fun (u : Int) (hu : Q = b.length → u = (a.length : Int) - P) => by have h := ht.put hP u hu; rw [HSZ.out] at h; exact h)
          by_cases h2 : P = a.length
          · have d1 : (((P : Int) == (a.length : Int)) : Bool) = true := by simp; omega
            have e4 := IntWalk.i64_in ((b.length : Int) - Q) (by omega)
            have HP2 := hide (HPUT.out ((b.length : Int) - Q) (by omega))
            clear hc ht hz h2 HPUT
            go_wp2_with fail
            go_roundw
            case rel => exact ⟨_, Q, _, rfl, rfl, by have := HN1.out; omega, HP2.out⟩
            case measure => simp [intOf]
          · have d1 : (((P : Int) == (a.length : Int)) : Bool) = false := by simp; omega
            by_cases h3 : Q = b.length
            · have d2 : (((Q : Int) == (b.length : Int)) : Bool) = true := by simp; omega
              have e4 := IntWalk.i64_in ((a.length : Int) - P) (by omega)
              have HP2 := hide (HPUT.out ((a.length : Int) - P) (by omega))
              clear hc ht hz h2 h3 HPUT
              go_wp2_with fail
              go_roundw
              case rel => exact ⟨_, Q, _, rfl, rfl, by have := HN1.out; omega, HP2.out⟩
              case measure => simp [intOf]
            · have d2 : (((Q : Int) == (b.length : Int)) : Bool) = false := by simp; omega
              have HP2 := hide (fun (u : Int) (k : Nat) => (show TabI w a.length b.length P Q (fun x => if x = Q then u else R x) ((wp_.drewN k).setCell ⟨wo.heap.size, Q, none⟩ (.int .i64 u)) from by have h := (show TabI w a.length b.length P (Q + 1) R (wp_.drewN k) from ⟨below_drewN ht.since k, ht.size, ht.top, ht.rows, ht.cur, ht.last⟩).put hP u (fun h => absurd h h3); rw [HSZ.out] at h; exact h))
              obtain ⟨P1, hP1⟩ : ∃ y, y = P + 1 := ⟨_, rfl⟩
              obtain ⟨Q1, hQ1⟩ : ∃ y, y = Q + 1 := ⟨_, rfl⟩
              have e5 : IntKind.i64.wrap ((P : Int) + 1) = (P1 : Int) := by rw [IntWalk.i64_in _ (by omega)]; omega
              have e6 : IntKind.i64.wrap ((Q : Int) + 1) = (Q1 : Int) := by rw [IntWalk.i64_in _ (by omega)]; omega
              obtain ⟨g1, hg1⟩ : ∃ y, y = w.heap.size + 1 + (a.length - P1) := ⟨_, rfl⟩
              have t1 : wp_.cell? ⟨w.heap.size, P1, none⟩ = some (.slice (some ⟨g1, 0, none⟩) N1 N1) := by
                have := ht.top.cell (show P1 < a.length + 1 by omega)
                rw [this, topV, if_pos (by omega), rowV, hg1, ← HN1.out]
              obtain ⟨R', _, hrow⟩ := ht.rows P1 (by omega) (by omega)
              rw [← hg1, ← HN1.out] at hrow
              have r0 := hrow.cell (show Q < N1 by have := HN1.out; omega)
              have r1 := hrow.cell (show Q1 < N1 by have := HN1.out; omega)
              have c1 := hc.cell (show Q1 < N1 by have := HN1.out; omega)
              try simp only at r0 r1 c1 c0
              have lg := hrow.lt
              have lc := hc.lt
              obtain ⟨ba, oa, rfl, hba, hca⟩ := HAa.out (by omega)
              obtain ⟨bb, ob, rfl, hbb, hcb⟩ := HAb.out (by omega)
              have x0 := in_cells hca hba ht.since (show P < a.length by omega)
              have x1 := in_cells hcb hbb ht.since (show Q < b.length by omega)
              have hbaw : ba < wp_.heap.size := by have := ht.since.size; omega
              have hbbw : bb < wp_.heap.size := by have := ht.since.size; omega
              have j0 : (0 : Int) ≤ (P1 : Int) := by omega
              have j1 : (P1 : Int) < (M1 : Int) := by have := HM1.out; omega
              have j2 : (0 : Int) ≤ (Q1 : Int) := by omega
              have j3 : (Q1 : Int) < (N1 : Int) := by have := HN1.out; omega
              have j4 : (P : Int) < (a.length : Int) := by omega
              have j5 : (Q : Int) < (b.length : Int) := by omega
              have hQN := hide (show Q ≤ N1 by have := HN1.out; omega)
              generalize a[P] = x at *
              generalize b[Q] = y at *
              generalize R' Q = A0 at *
              generalize R' Q1 = A1 at *
              generalize R Q1 = A2 at *
              clear hc ht hz h2 h3 HPUT hrow hca hcb hg1 hP1 hQ1 hP hQ hJ
              by_cases hxy : x = y
              · have d3 : ((x == y) : Bool) = true := by simpa using hxy
                clear hxy
                go_wp2_with fail
                go_quiet (fail)
                go_wp2_with fail
                go_region
                go_goals
                all_goals
                  go_wp2_with fail
                  go_roundw
                  case rel => exact ⟨_, Q, _, rfl, rfl, hQN.out, HP2.out _ _⟩
                  case measure => simp [intOf]
              · have d3 : ((x == y) : Bool) = false := by simpa using hxy
                clear hxy
                go_wp2_with fail
                go_quiet (fail)
                go_wp2_with fail
                go_region
                go_goals
                all_goals
                  go_wp2_with fail
                  go_roundw
                  case rel => exact ⟨_, Q, _, rfl, rfl, hQN.out, HP2.out _ _⟩
                  case measure => simp [intOf]
        · obtain rfl : J = 0 := by omega
          have HT := hide ht.done
          clear ht
          go_wp2_with fail
          go_roundw
          case rel => exact ⟨_, P, rfl, rfl, by omega, HT.out⟩
          case measure => simp [intOf]
    · obtain rfl : J = 0 := by omega
      have HT := hide ht
      clear ht
      go_wp2_with fail
      go_ret
      exact ⟨by rw [HM1.out]; rfl, HT.out⟩
end Go.Proofs.Ytagembkjmnfidaa
namespace Go.Proofs.Ytagembkjmnfidaa
open Go.RowKit
open Go.Proofs.Ml
set_option linter.unusedVariables false

/-- What Walk reads of the table: the rows' places, the cells, the last column. -/
theorem Tab.read {w W1 wr : World} {m n : Nat} (h : Tab w m n 0 W1) (hb : Below W1.heap.size W1 wr) {r : Nat} (hr : r ≤ m) :
    ∃ (g : Nat) (R : Nat → Int), R n = (m : Int) - r ∧ g < wr.heap.size ∧ wr.cell? ⟨w.heap.size, r, none⟩ = some (.slice (some ⟨g, 0, none⟩) (n + 1) (n + 1)) ∧ ∀ c, c ≤ n → wr.cell? ⟨g, c, none⟩ = some (.int .i64 (R c)) := by
  obtain ⟨R, hR, hrow⟩ := h.rows r (Nat.zero_le _) hr
  have ht := h.top.of_block (hb.block _ h.top.lt)
  have hrow2 := hrow.of_block (hb.block _ hrow.lt)
  refine ⟨_, R, hR, hrow2.lt, ?_, fun c hc => hrow2.cell (show c < n + 1 by omega)⟩
  rw [ht.cell (show r < m + 1 by omega), topV, if_pos (Nat.zero_le _)]
  rfl

set_option maxRecDepth 100000 in
set_option maxHeartbeats 6400000 in
theorem walk83 (va vb : Value) (a b : List Int) (w : World) (hra : Rd w va 1 a.length (inVals a)) (hrb : Rd w vb 1 b.length (inVals b)) (ha : a.length ≤ 100) (hb : b.length ≤ 100) :
    Calls Try.prog 83 #[va, vb] w fun e w' => ∃ l : List Chg, fits l a b = true ∧ RetRow w 45 4 l.length (chVals l) e w' := by
  have H93 := hide (table93 va vb a b w hra hrb ha hb)
  have HRA := hide hra
  have HRB := hide hrb
  obtain ⟨Aa, ca, rfl, _, _, _, hAa⟩ := hra
  obtain ⟨Ab, cb, rfl, _, _, _, hAb⟩ := hrb
  have HAa := hide hAa
  have HAb := hide hAb
  obtain ⟨M1, hM1⟩ : ∃ y, y = a.length + 1 := ⟨_, rfl⟩
  obtain ⟨N1, hN1⟩ : ∃ y, y = b.length + 1 := ⟨_, rfl⟩
  have HM1 := hide hM1
  have HN1 := hide hN1
  rw [← hM1] at H93
  clear hAa hAb hM1 hN1
  go_enter Try.func83, Try.ntmps83
  go_wp2_with fail
  refine H93.out.mono ?_
  rintro e W1 ⟨rfl, htab⟩
  have HT := hide (fun wr (h : Below W1.heap.size W1 wr) r (hr : r ≤ a.length) => htab.read h hr)
  have c1 := htab.since
  have s1 := c1.size
  have hBW : w.heap.size < W1.heap.size := by have := htab.size; omega
  clear htab H93
  go_wp2_with fail
  go_loopw [6, 7, 8] (fun v i j wr => ∃ (P : List Spn) (I J : Nat), i = .int .i64 I ∧ j = .int .i64 J ∧ I ≤ a.length ∧ J ≤ b.length ∧ Asc 0 0 P I J ∧ (∀ s ∈ P, a[s.f.toNat]? = b[s.t.toNat]?) ∧ wr.ownsRow W1.heap.size 35 2 v P.length (spVals P) ∧ Below W1.heap.size W1 wr)
    (fun _ i j _ => (a.length - (intOf i).toNat) + (b.length - (intOf j).toNat))
  case atStart => exact ⟨[], 0, 0, rfl, rfl, by omega, by omega, ⟨by omega, by omega⟩, by simp, World.ownsRow_nil _ _ _ _, Below.refl _ _⟩
  case round =>
    obtain ⟨P, I, J, rfl, rfl, hI, hJ, hP, hE, hown, hbel⟩ := hrel
    have hbs := hbel.size
    have hPl := hP.length
    have hP5 : P.length ≤ 4000 := by omega
    have HP := hide hP
    have HE := hide hE
    clear hP hE hPl
    obtain ⟨I1, hI1⟩ : ∃ y, y = I + 1 := ⟨_, rfl⟩
    obtain ⟨J1, hJ1⟩ : ∃ y, y = J + 1 := ⟨_, rfl⟩
    have e1 : IntKind.i64.wrap ((I : Int) + 1) = (I1 : Int) := by rw [IntWalk.i64_in _ (by omega)]; omega
    have e2 : IntKind.i64.wrap ((J : Int) + 1) = (J1 : Int) := by rw [IntWalk.i64_in _ (by omega)]; omega
    have HI1 := hide hI1
    have HJ1 := hide hJ1
    clear hI1 hJ1
    by_cases hi : I < a.length
    · obtain ⟨g0, R0, hR0, lg0, t0, r0⟩ := HT.out wr hbel I hI
      obtain ⟨g1, R1, hR1, lg1, t1, r1⟩ := HT.out wr hbel I1 (by have := HI1.out; omega)
      rw [← HN1.out] at t0 t1
      have d0 := r0 J hJ
      have d1 := r1 J hJ
      have i0 : (0 : Int) ≤ (I : Int) := by omega
      have i1 : (I : Int) < (a.length : Int) := by omega
      have i2 : decide ((I : Int) < (a.length : Int)) = true := by simpa using hi
      have i3 : decide (I < a.length) = true := by simpa using hi
      have i4 : (I : Int) < (M1 : Int) := by have := HM1.out; omega
      have i5 : (0 : Int) ≤ (I1 : Int) := by omega
      have i6 : (I1 : Int) < (M1 : Int) := by have := HM1.out; have := HI1.out; omega
      have i7 : (0 : Int) ≤ (J : Int) := by omega
      have i8 : (J : Int) < (N1 : Int) := by have := HN1.out; omega
      have lw : w.heap.size < wr.heap.size := by omega
      by_cases hj : J < b.length
      · have j2 : decide ((J : Int) < (b.length : Int)) = true := by simpa using hj
        have j3 : decide (J < b.length) = true := by simpa using hj
        have j1 : (J : Int) < (b.length : Int) := by omega
        obtain ⟨ba, oa, rfl, hba, hca⟩ := HAa.out (by omega)
        obtain ⟨bb, ob, rfl, hbb, hcb⟩ := HAb.out (by omega)
        have hc := c1.trans (hbel.mono s1)
        have x0 := in_cells hca hba hc hi
        have x1 := in_cells hcb hbb hc hj
        have hbaw : ba < wr.heap.size := by have := hc.size; omega
        have hbbw : bb < wr.heap.size := by have := hc.size; omega
        have HXY := hide (show a[I] = b[J] → a[((I : Int)).toNat]? = b[((J : Int)).toNat]? from fun h => by rw [Int.toNat_natCast, Int.toNat_natCast, List.getElem?_eq_getElem hi, List.getElem?_eq_getElem hj, h])
        generalize a[I] = x at *
        generalize b[J] = y at *
        generalize R0 J = A0 at *
        generalize R1 J = A1 at *
        clear hca hcb hc r0 r1 hR0 hR1
        by_cases hxy : x = y
        · have d3 : ((x == y) : Bool) = true := by simpa using hxy
          have HQ := hide (HXY.out hxy)
          have HS := hide (HP.out.snoc)
          clear hxy HXY
          go_wp2_with fail
          go_quiet (fail)
          go_wp2_with (at_builtin; go_must (refine wp_app1 rfl (.tmp 46) (.tmp 50) 50 35 2 16 _ rfl Try.underlying50 info35 rfl (by omega) (by omega) wr _ W1.heap.size P.length _ (spVals P) rfl _ _ rfl rfl hown (own_drewN hown _) (Nat.le_refl _) rfl rfl (by omega) hbs ?_); intro v1 w1 hown1 hb1 hold hsz1; clear hold)
          go_roundw
          case rel => exact ⟨P ++ [⟨I, J⟩], I1, J1, rfl, rfl, by have := HI1.out; omega, by have := HJ1.out; omega, by have h := HS.out; rwa [show (I : Int) + 1 = (I1 : Int) by have := HI1.out; omega, show (J : Int) + 1 = (J1 : Int) by have := HJ1.out; omega] at h, fun s hs => by
            rcases List.mem_append.1 hs with h | h
            · exact HE.out s h
            · rw [List.mem_singleton] at h; subst h; exact HQ.out, own_sp (c := ⟨I, J⟩) hown1, (below_drewN hbel _).trans hb1⟩
          case measure => have := HI1.out; have := HJ1.out; simp [intOf]; omega
        · have d3 : ((x == y) : Bool) = false := by simpa using hxy
          clear hxy HXY
          by_cases hd : wrap64 (A1 + 1) = A0
          · have d4 : ((wrap64 (A1 + 1) == A0) : Bool) = true := by simpa using hd
            have d5 := 0
            clear hd
            go_wp2_with fail
            go_quiet (fail)
            go_wp2_with fail
            go_quiet (fail)
            go_wp2_with fail
            go_roundw
            case rel => exact ⟨P, I1, J, rfl, rfl, by have := HI1.out; omega, hJ, HP.out.up (by have := HI1.out; omega) (by omega), HE.out, hown, below_drewN hbel _⟩
            case measure => have := HI1.out; simp [intOf]; omega
          · have d4 : ((wrap64 (A1 + 1) == A0) : Bool) = false := by simpa using hd
            have d5 := 0
            clear hd
            go_wp2_with fail
            go_quiet (fail)
            go_wp2_with fail
            go_quiet (fail)
            go_wp2_with fail
            go_roundw
            case rel => exact ⟨P, I, J1, rfl, rfl, hI, by have := HJ1.out; omega, HP.out.up (by omega) (by have := HJ1.out; omega), HE.out, hown, below_drewN hbel _⟩
            case measure => have := HJ1.out; simp [intOf]; omega
      · have hJn : J = b.length := by omega
        have j2 : decide ((J : Int) < (b.length : Int)) = false := by simpa using hj
        have j3 : decide (J < b.length) = false := by simpa using hj
        rw [← hJn] at hR0 hR1
        have hA : IntKind.i64.wrap (R1 J + 1) = R0 J := by rw [hR1, hR0, IntWalk.i64_in _ (by have := HI1.out; omega)]; have := HI1.out; omega
        generalize R0 J = A0 at *
        generalize R1 J = A1 at *
        clear hJn hR0 hR1 r0 r1 hj
        go_wp2_with fail
        go_quiet (fail)
        go_wp2_with fail
        go_quiet (fail)
        go_wp2_with fail
        go_roundw
        case rel => exact ⟨P, I1, J, rfl, rfl, by have := HI1.out; omega, hJ, HP.out.up (by have := HI1.out; omega) (by omega), HE.out, hown, below_drewN hbel _⟩
        case measure => have := HI1.out; simp [intOf]; omega
    · have i2 : decide ((I : Int) < (a.length : Int)) = false := by simpa using hi
      have i3 : decide (I < a.length) = false := by simpa using hi
      by_cases hj : J < b.length
      · have j2 : decide ((J : Int) < (b.length : Int)) = true := by simpa using hj
        have j3 : decide (J < b.length) = true := by simpa using hj
        go_wp2_with fail
        go_quiet (fail)
        go_wp2_with fail
        go_quiet (fail)
        go_wp2_with fail
        go_roundw
        case rel => exact ⟨P, I, J1, rfl, rfl, hI, by have := HJ1.out; omega, HP.out.up (by omega) (by have := HJ1.out; omega), HE.out, hown, below_drewN hbel _⟩
        case measure => have := HJ1.out; simp [intOf]; omega
      · have j2 : decide ((J : Int) < (b.length : Int)) = false := by simpa using hj
        have j3 : decide (J < b.length) = false := by simpa using hj
        have HPP := hide (HP.out.up (show (I : Int) ≤ (a.length : Int) by omega) (show (J : Int) ≤ (b.length : Int) by omega))
        have HMEM := hide (fun s hs => HPP.out.mem s hs)
        have cr := c1.trans (hbel.mono s1)
        go_wp2_with fail
        refine (made63 _ P a.length b.length _ (Rd.of_own hown) (by omega) (fun s hs => by have := HMEM.out s hs; omega) (by omega) (by omega)).mono ?_
        rintro e w' ⟨v', rfl, ho, hb'⟩
        have HO := hide ho
        obtain ⟨A', c', rfl, _⟩ := own_open ho
        clear ho
        go_wp2_with fail
        go_ret
        exact ⟨_, fits_made HPP.out (by omega) (by omega) HE.out, _, rfl, own_base HO.out (cr.size), cr.trans (hb'.mono cr.size)⟩
end Go.Proofs.Ytagembkjmnfidaa
