import Derived.Test.YtagembkjmnfidaaMatA
import Derived.Test.YtagembkjmnfidaaGrpA
import Derived.Test.YtagembkjmnfidaaBaseG
import Derived.OneCell
import Derived.Deep.LoopGhost
import Derived.FnLit
import Derived.RegionTactic
import Derived.ChangeAlike
import Derived.BigRegion
namespace Go.Proofs.Ytagembkjmnfidaa
open Go.RowKit
open Go.Proofs.Ml
set_option linter.unusedVariables false

/-- The three variables that the closure of script.pairs holds: out, old, now, in the blocks B, B + 1, B + 2. -/
structure Cap (w : World) (B : Nat) (I J : Int) (L : List Spn) : Prop where
  ex : ∃ v, w.heap[B]? = some (.cells #[v] 50 (0, 0)) ∧ w.ownsRow (B + 3) 35 2 v L.length (spVals L)
  old : w.heap[B + 1]? = some (.cells #[.int .i64 I] 3 (0, 0))
  now : w.heap[B + 1 + 1]? = some (.cells #[.int .i64 J] 3 (0, 0))

theorem own_sc {w : World} {base : Nat} {e : TypeId} {size : Nat} {v : Value} {n : Nat} {xs : List Value} (h : w.ownsRow base e size v n xs) {a : Addr} (ha : a.block < base) (u : Value) : (w.setCell a u).ownsRow base e size v n xs :=
  ownsRow_setCell_other h (fun e => by have := (h.lt _ e).1; omega) u
theorem heap_sc {w : World} {b : Nat} {a : Addr} {u : Value} {o : Option Obj} (h : w.heap[b]? = o) (hne : b ≠ a.block) : (w.setCell a u).heap[b]? = o := (Below.heap_setCell w a u b hne).trans h
theorem heap_al {w : World} {b : Nat} {u : Obj} {o : Obj} (h : w.heap[b]? = some o) : (w.alloc u).heap[b]? = some o := (Below.heap_alloc w u b (lt_of_block h)).trans h

theorem cap_cells {w w1 : World} {B : Nat} {v : Value} {I J : Int} (hb : Below (B + 3) w w1) (hv : w.heap[B]? = some (.cells #[v] 50 (0, 0))) (hold : w.heap[B + 1]? = some (.cells #[.int .i64 I] 3 (0, 0))) (hnow : w.heap[B + 1 + 1]? = some (.cells #[.int .i64 J] 3 (0, 0))) :
    w1.cell? ⟨B, 0, none⟩ = some v ∧ w1.frozen? ⟨B, 0, none⟩ = false ∧ w1.cell? ⟨B + 1, 0, none⟩ = some (.int .i64 I) ∧ w1.frozen? ⟨B + 1, 0, none⟩ = false ∧ w1.cell? ⟨B + 1 + 1, 0, none⟩ = some (.int .i64 J) ∧ w1.frozen? ⟨B + 1 + 1, 0, none⟩ = false := by
  have gv := (hb.block B (by omega)).trans hv
  have go := (hb.block (B + 1) (by omega)).trans hold
  have gn := (hb.block (B + 2) (by omega)).trans hnow
  exact ⟨cell_of_one gv, free_of_one gv, cell_of_one go, free_of_one go, cell_of_one gn, free_of_one gn⟩
/-- Behind a round of the closure. -/
theorem Cap.round {w w1 : World} {B : Nat} {v v1 : Value} {I J : Int} {L : List Spn} (hb : Below (B + 3) w w1) (hv : w.heap[B]? = some (.cells #[v] 50 (0, 0))) (hold : w.heap[B + 1]? = some (.cells #[.int .i64 I] 3 (0, 0))) (hnow : w.heap[B + 1 + 1]? = some (.cells #[.int .i64 J] 3 (0, 0)))
    (hown : w1.ownsRow (B + 3) 35 2 v1 L.length (spVals L)) (I' J' : Int) : Cap (((w1.setCell ⟨B, 0, none⟩ v1).setCell ⟨B + 1 + 1, 0, none⟩ (.int .i64 J')).setCell ⟨B + 1, 0, none⟩ (.int .i64 I')) B I' J' L := by
  have gv := (hb.block B (by omega)).trans hv
  have go := (hb.block (B + 1) (by omega)).trans hold
  have gn := (hb.block (B + 2) (by omega)).trans hnow
  refine ⟨⟨v1, ?_, own_sc (a := ⟨B + 1, 0, none⟩) (own_sc (a := ⟨B + 1 + 1, 0, none⟩) (own_sc (a := ⟨B, 0, none⟩) hown (by show B < B + 3; omega) _) (by show B + 2 < B + 3; omega) _) (by show B + 1 < B + 3; omega) _⟩, ?_, ?_⟩
  · exact heap_sc (heap_sc (one_setCell gv) (by show B ≠ B + 2; omega)) (by show B ≠ B + 1; omega)
  · exact one_setCell (heap_sc (heap_sc go (by show B + 1 ≠ B; omega)) (by show B + 1 ≠ B + 2; omega))
  · exact heap_sc (one_setCell (heap_sc gn (by show B + 2 ≠ B; omega))) (by show B + 2 ≠ B + 1; omega)
theorem cap_kept {a w w1 : World} {B : Nat} {v v1 : Value} {I J : Int} (hb : Below (B + 3) w w1) (hv : w.heap[B]? = some (.cells #[v] 50 (0, 0))) (hold : w.heap[B + 1]? = some (.cells #[.int .i64 I] 3 (0, 0))) (hnow : w.heap[B + 1 + 1]? = some (.cells #[.int .i64 J] 3 (0, 0)))
    (hk : Kept 45 a w1) {x y : Value} : Kept 45 a (((w1.setCell ⟨B, 0, none⟩ v1).setCell ⟨B + 1 + 1, 0, none⟩ x).setCell ⟨B + 1, 0, none⟩ y) := by
  have gv := (hb.block B (by omega)).trans hv
  have go := (hb.block (B + 1) (by omega)).trans hold
  have gn := (hb.block (B + 1 + 1) (by omega)).trans hnow
  have g1 := heap_sc (a := ⟨B, 0, none⟩) (u := v1) gn (by show B + 1 + 1 ≠ B; omega)
  have g2 := heap_sc (a := ⟨B + 1 + 1, 0, none⟩) (u := x) (heap_sc (a := ⟨B, 0, none⟩) (u := v1) go (by show B + 1 ≠ B; omega)) (by show B + 1 ≠ B + 1 + 1; omega)
  exact ((hk.set (p := ⟨B, 0, none⟩) gv (by decide) _).set (p := ⟨B + 1 + 1, 0, none⟩) g1 (by decide) _).set (p := ⟨B + 1, 0, none⟩) g2 (by decide) _
theorem run_next {L' : List Spn} {X : List Spn} {I' J' O : Int} (h : X = L' ++ runP I' J' (O - I').toNat) (hlt : I' < O) : X = (L' ++ [⟨I', J'⟩]) ++ runP (I' + 1) (J' + 1) (O - (I' + 1)).toNat := by
  rw [h, rp_step hlt]; simp
theorem Cap.start (w : World) : Cap (((w.alloc (.cells #[.slice none 0 0] 50)).alloc (.cells #[.int .i64 0] 3)).alloc (.cells #[.int .i64 0] 3)) w.heap.size 0 0 [] := by
  refine ⟨⟨_, heap_al (heap_al (heap_alloc_new w _)), World.ownsRow_nil _ _ _ _⟩, ?_, ?_⟩
  · have := heap_alloc_new (w.alloc (.cells #[.slice none 0 0] 50)) (.cells #[.int .i64 0] 3)
    rw [show (w.alloc (.cells #[.slice none 0 0] 50)).heap.size = w.heap.size + 1 by simp] at this
    exact heap_al this
  · have := heap_alloc_new ((w.alloc (.cells #[.slice none 0 0] 50)).alloc (.cells #[.int .i64 0] 3)) (.cells #[.int .i64 0] 3)
    rw [show ((w.alloc (.cells #[.slice none 0 0] 50)).alloc (.cells #[.int .i64 0] 3)).heap.size = w.heap.size + 1 + 1 by simp] at this
    exact this
theorem Cap.alloc {w : World} {B : Nat} {I J : Int} {L : List Spn} (h : Cap w B I J L) (o : Obj) : Cap (w.alloc o) B I J L := by
  obtain ⟨⟨v, h1, h2⟩, h3, h4⟩ := h
  exact ⟨⟨v, heap_al h1, h2.alloc _⟩, heap_al h3, heap_al h4⟩
theorem Cap.both {w : World} {B : Nat} {I J : Int} {L : List Spn} (h : Cap w B I J L) (I' J' : Int) : Cap ((w.setCell ⟨B + 1, 0, none⟩ (.int .i64 I')).setCell ⟨B + 1 + 1, 0, none⟩ (.int .i64 J')).drew B I' J' L := by
  obtain ⟨⟨v, h1, h2⟩, h3, h4⟩ := h
  refine ⟨⟨v, ?_, own_sc (a := ⟨B + 1 + 1, 0, none⟩) (own_sc (a := ⟨B + 1, 0, none⟩) h2 (by show B + 1 < B + 3; omega) _) (by show B + 1 + 1 < B + 3; omega) _⟩, ?_, ?_⟩
  · exact heap_sc (a := ⟨B + 1 + 1, 0, none⟩) (heap_sc (a := ⟨B + 1, 0, none⟩) h1 (by show B ≠ B + 1; omega)) (by show B ≠ B + 1 + 1; omega)
  · exact heap_sc (a := ⟨B + 1 + 1, 0, none⟩) (one_setCell h3) (by show B + 1 ≠ B + 1 + 1; omega)
  · exact one_setCell (heap_sc (a := ⟨B + 1, 0, none⟩) h4 (by show B + 1 + 1 ≠ B + 1; omega))
/-- Behind a call of the closure. -/
def Thru (w : World) (B : Nat) (O J' : Int) (L' : List Spn) (e : Ending) (w' : World) : Prop := e = .returned (.tuple #[]) ∧ Cap w' B O J' L' ∧ Below B w w' ∧ Kept 45 w w'

set_option maxRecDepth 100000 in
set_option maxHeartbeats 800000 in
theorem through91 (B : Nat) (O I J : Int) (L : List Spn) (w : World) (hcap : Cap w B I J L) (hI : 0 ≤ I) (hIO : I ≤ O) (hO : O ≤ 4096) (hJ : 0 ≤ J ∧ J ≤ 4096) (hL : L.length ≤ 900000) :
    Calls Try.prog 91 #[.int .i64 O, .pointer (some ⟨B + 1, 0, none⟩), .pointer (some ⟨B, 0, none⟩), .pointer (some ⟨B + 1 + 1, 0, none⟩)] w (Thru w B O (J + (O - I)) (L ++ runP I J (O - I).toNat)) := by
  go_enter Try.func91, Try.ntmps91
  go_wp2_with fail
  go_loopg [] (O - I).toNat (fun k wr => ∃ (I' J' : Int) (L' : List Spn), k = (O - I').toNat ∧ I ≤ I' ∧ I' ≤ O ∧ J' - J = I' - I ∧ L'.length ≤ 900000 + (I' - I).toNat ∧ Cap wr B I' J' L' ∧ Below B w wr ∧ Kept 45 w wr ∧ Hid (L ++ runP I J (O - I).toNat = L' ++ runP I' J' (O - I').toNat))
  case atStart => exact ⟨I, J, L, rfl, by omega, by omega, by omega, by omega, hcap, Below.refl _ _, Kept.refl _ _, hide rfl⟩
  case round =>
    obtain ⟨I', J', L', hk, r1, r2, r3, r4, hC, hbel, hkp, hrun⟩ := hrel
    have HK := hide hk
    clear hk
    obtain ⟨⟨v, hv, hown⟩, hold, hnow⟩ := hC
    have c0 := cell_of_one hv
    have f0 := free_of_one hv
    have c1 := cell_of_one hold
    have f1 := free_of_one hold
    have c2 := cell_of_one hnow
    have f2 := free_of_one hnow
    have hlt2 := lt_of_block hnow
    have HV := hide hv
    have HO := hide hold
    have HN := hide hnow
    clear hv hold hnow
    by_cases hlt : I' < O
    · go_wp2_with (at_builtin; go_must (refine wp_app1k rfl (.tmp 10) (.tmp 14) 50 35 2 16 _ rfl Try.underlying50 info35 rfl (by omega) (by omega) wr _ (B + 3) L'.length _ (spVals L') rfl _ _ rfl rfl hown hown (Nat.le_refl _) rfl rfl (by omega) (by omega) ?_); intro v1 w1 hown1 hb1 hhold hsz1; have HH := hide hhold; clear hhold; obtain ⟨A1, cap1, rfl, hA1⟩ := own_open hown1; clear hA1; obtain ⟨d0, e0, d1, e1, d2, e2⟩ := cap_cells hb1 HV.out HO.out HN.out)
      go_roundg (O - (I' + 1)).toNat
      case measure => have := HK.out; omega
      case rel => exact ⟨I' + 1, J' + 1, L' ++ [⟨I', J'⟩], rfl, by omega, by omega, by omega, by simp; omega, Cap.round hb1 HV.out HO.out HN.out (own_sp (c := ⟨I', J'⟩) hown1) _ _, (((hbel.trans (hb1.mono (by omega))).setCell (p := ⟨B, 0, none⟩) (Nat.le_refl _) _).setCell (p := ⟨B + 1 + 1, 0, none⟩) (by show B ≤ B + 2; omega) _).setCell (p := ⟨B + 1, 0, none⟩) (by show B ≤ B + 1; omega) _, cap_kept hb1 HV.out HO.out HN.out (hkp.app hown (by decide) HH.out), hide (run_next hrun.out hlt)⟩
    · go_wp2_with fail
      go_end0
      have e : I' = O := by omega
      subst e
      have h := hrun.out
      rw [show (I' - I').toNat = 0 by omega, runP, List.append_nil] at h
      rw [h, show J + (I' - I) = J' by omega]
      exact ⟨rfl, ⟨⟨v, HV.out, hown⟩, HO.out, HN.out⟩, hbel, hkp⟩

/-- A valid script's partners; the three variables of the closure lie in the first blocks. -/
theorem own_alloc_base {w : World} {B : Nat} {e : TypeId} {size n : Nat} {v : Value} {cs : List Value} (h : w.ownsRow B e size v n cs) (o : Obj) : (w.alloc o).ownsRow B e size v n cs := h.alloc _

set_option maxRecDepth 100000 in
set_option maxHeartbeats 1600000 in
theorem pairs78 (v : Value) (l : List Chg) (m n : Int) (w : World) (hr : Rd w v 4 l.length (chVals l)) (hv : valid l m n = true) (hl : l.length ≤ 900000) :
    Calls Try.prog 78 #[v, .int .i64 m] w (RetRow w 35 2 (mat 0 0 l m).length (spVals (mat 0 0 l m))) := by
  have hvv := valid_iff.1 hv
  obtain ⟨hm0, hm1⟩ := hvv.1
  obtain ⟨hn0, hn1⟩ := hvv.2.1
  have HB := hide hvv.2.2.bounds
  have hI0 := MtInv.start hv
  clear hvv hv
  obtain ⟨A, cap, rfl, hcap, hcap', hlen, hA⟩ := hr
  clear hlen hcap hcap'
  go_enter Try.func78, Try.ntmps78
  go_wp2_with fail
  go_loopw [14] (fun k wr => ∃ (K : Nat) (I J : Int) (L : List Spn), K ≤ l.length ∧ k = .int .i64 K ∧ 0 ≤ I ∧ I ≤ m ∧ 0 ≤ J ∧ J ≤ n ∧ L.length ≤ I ∧ Cap wr w.heap.size I J L ∧ Below w.heap.size w wr ∧ MtInv l m n K I J L)
    (fun k _ => l.length - (intOf k).toNat)
  case atStart => exact ⟨0, 0, 0, [], by omega, rfl, by omega, by omega, by omega, by omega, by simp, Cap.start w, (((Below.refl _ _).alloc (Nat.le_refl _) _).alloc (by simp) _).alloc (by simp; omega) _, hI0⟩
  case round =>
    obtain ⟨K, I, J, L, hK, rfl, hi0, hi1, hj0, hj1, hL, hC, hbel, hinv⟩ := hrel
    have hbs := hbel.size
    have hlt2 := lt_of_block hC.now
    by_cases hlt : K < l.length
    · obtain ⟨b, off, rfl, hb, hc⟩ := hA (by omega)
      have hbw : b < wr.heap.size := by omega
      obtain ⟨c0, c1, c2, c3⟩ := ch_cells hc hb hbel hlt
      obtain ⟨q1, q2, q3, q4, q5, q6⟩ := hinv.run hlt
      have hbK := HB.out l[K] (List.getElem_mem _)
      have HR := hide q5
      have HN := hide q6
      clear hA hc hinv q5 q6
      generalize l[K] = C at *
      obtain ⟨O, OL, N, NL⟩ := C
      simp only at q1 q2 q3 q4 hbK HR HN c0 c1 c2 c3
      have k0 : (0 : Int) ≤ (K : Int) := by omega
      have k1 : (K : Int) < (l.length : Int) := by omega
      have HC := hide hC
      clear hC
      go_wp2_with (go_at_call 91; refine (through91 w.heap.size O I J L _ (HC.out.alloc _) (by omega) (by omega) (by omega) (by omega) (by omega)).mono ?_; rintro e w1 ⟨rfl, hC1, hb1, hkp1⟩)
      rw [show J + (O - I) = N by omega] at hC1
      have hX := hkp1 wr.heap.size _ _ (heap_alloc_new wr _)
      have x1 := cell_of_row w1 wr.heap.size 1 _ _ _ hX
      have x3 := cell_of_row w1 wr.heap.size 3 _ _ _ hX
      have x1' : w1.cell? ⟨wr.heap.size, 1, none⟩ = some (.int .i64 OL) := x1
      have x3' : w1.cell? ⟨wr.heap.size, 3, none⟩ = some (.int .i64 NL) := x3
      clear hX x1 x3 hkp1 c0 c1 c2 c3
      have d1 := cell_of_one hC1.old
      have e1 := free_of_one hC1.old
      have d2 := cell_of_one hC1.now
      have e2 := free_of_one hC1.now
      have HC1 := hide hC1
      have HB1 := hide hb1
      have hs1 := hb1.size
      clear hC1 hb1
      go_region
      go_wp2_with fail
      go_roundw
      case rel => exact ⟨K + 1, O + OL, N + NL, L ++ runP I J (O - I).toNat, by omega, by go_num, by omega, by omega, by omega, by omega, by rw [List.length_append, runP_length]; omega, Cap.both HC1.out _ _, (((hbel.alloc hbs _).trans HB1.out).setCell (p := ⟨w.heap.size + 1, 0, none⟩) (by show w.heap.size ≤ w.heap.size + 1; omega) _ |>.setCell (p := ⟨w.heap.size + 1 + 1, 0, none⟩) (by show w.heap.size ≤ w.heap.size + 1 + 1; omega) _).drew, HN.out _ (by have := HR.out; unfold MtRun at this; rw [this, List.append_assoc])⟩
      case measure => simp [intOf]; omega
    · obtain ⟨q1, q2, q3⟩ := hinv.last (by omega)
      have HR := hide q1
      clear hA hinv q1
      have HC := hide hC
      clear hC
      go_wp2_with (go_at_call 91; refine (through91 w.heap.size m I J L _ HC.out (by omega) (by omega) (by omega) (by omega) (by omega)).mono ?_; rintro e w1 ⟨rfl, hC1, hb1, hkp1⟩; obtain ⟨⟨v1, hv1, hown1⟩, _, _⟩ := hC1; clear hkp1; have x1 := cell_of_one hv1; clear hv1)
      go_ret
      have h := HR.out
      unfold MtRun at h
      rw [List.append_nil] at h
      exact ret_row (own_base hown1 (by omega)) (hbel.trans hb1) (by rw [h]) (by rw [h])
end Go.Proofs.Ytagembkjmnfidaa
