import Derived.Test.YtagembkjmnfidaaGen2
import Derived.Test.YtagembkjmnfidaaBaseH
namespace Go.Proofs.Ytagembkjmnfidaa
open Go.RowKit
open Go.Proofs.Ml
set_option linter.unusedVariables false

/-- What law08's second hands back: a valid script from n lines. -/
def SecPost (n : Int) (w : World) (e : Ending) (w' : World) : Prop := ∃ (v : Value) (l : List Chg) (k : Int), e = .returned (.tuple #[v, .int .i64 k]) ∧ valid l n k = true ∧ k ≤ 8 ∧ l.length ≤ 18 ∧ w'.ownsRow w.heap.size 45 4 v l.length (chVals l) ∧ Below w.heap.size w w'
theorem SecPost.mk {w w' w1 : World} {p : List Spn} {m n I J : Int} {v : Value} (hp : Asc 0 0 p I J) (hI : I ≤ m) (hJ : J ≤ n) (hm : m ≤ 9) (hn : n ≤ 8) (hb : Below w.heap.size w w1) (hr : RetRow w1 45 4 (made 0 0 p m n).length (chVals (made 0 0 p m n)) (.returned v) w') :
    SecPost m w (.returned (.tuple #[v, .int .i64 n])) w' := by
  obtain ⟨v', e, hown, hb'⟩ := hr
  injection e with e
  subst e
  have ha := hp.up hI hJ
  have hv := made_valid ha (by omega) (by omega)
  have hl := (valid_val hv).length
  refine ⟨v, made 0 0 p m n, n, rfl, hv, hn, by omega, ?_, hb.trans (hb'.mono hb.size)⟩
  exact own_base hown hb.size

set_option maxRecDepth 100000 in
set_option maxHeartbeats 400000 in
theorem second49 (v : Value) (zs : List Int) (k m : Int) (w : World) (hr : Rd w v 1 zs.length (inVals zs)) (hz : zs.length ≤ 9223372036854775807) (h0 : 0 ≤ k) (h2 : k ≤ 10000) (hm0 : 0 ≤ m) (hm1 : m ≤ 9) :
    Calls Try.prog 49 #[v, .int .i64 k, .int .i64 m] w (SecPost m w) := by
  have HR := hide hr
  clear hr
  go_enter Try.func49, Try.ntmps49
  go_wp2_with fail
  refine (at62 _ zs _ _ HR.out hz (by omega) (by omega)).mono ?_
  rintro e w' ⟨x, hx0, hx1, rfl, rfl⟩
  go_wp2_with fail
  refine (mod29 _ _ _ (by omega) (by omega)).mono ?_
  rintro e w' ⟨rfl, rfl⟩
  obtain ⟨hn0, hn1⟩ := gmod_range x 9 (by omega) (by omega)
  generalize gmod x 9 = n at *
  go_wp2_with fail
  go_loopw [9, 10, 11] (fun v i j wr => ∃ (P : List Spn) (I J : Int), i = .int .i64 I ∧ j = .int .i64 J ∧ 0 ≤ I ∧ I ≤ m ∧ 0 ≤ J ∧ J ≤ n ∧ Asc 0 0 P I J ∧ wr.ownsRow w.heap.size 35 2 v P.length (spVals P) ∧ Below w.heap.size w wr)
    (fun _ i j _ => (m - intOf i).toNat + (n - intOf j).toNat)
  case atStart => exact ⟨[], 0, 0, rfl, rfl, by omega, by omega, by omega, by omega, ⟨by omega, by omega⟩, World.ownsRow_nil _ _ _ _, Below.refl _ _⟩
  case round =>
    obtain ⟨P, I, J, rfl, rfl, hI0, hI1, hJ0, hJ1, hP, hown, hbel⟩ := hrel
    have hbs := hbel.size
    have hPl := hP.length
    have H1 := hide hP
    clear hP
    by_cases hlt : I < m ∧ J < n
    · obtain ⟨hlt1, hlt2⟩ := hlt
      go_wp2_with fail
      refine (at62 _ zs _ _ (HR.out.below hbel (Nat.le_refl _)) hz (by omega) (by omega)).mono ?_
      rintro e w' ⟨z, hz0, hz1, rfl, rfl⟩
      go_wp2_with (at_builtin; go_must (refine wp_app1 rfl (.tmp 34) (.tmp 38) 50 35 2 16 _ rfl Try.underlying50 info35 rfl (by omega) (by omega) wr _ w.heap.size P.length _ (spVals P) rfl _ _ rfl rfl hown hown (Nat.le_refl _) rfl rfl (by omega) hbs ?_); intro v1 w1 hown1 hb1 hold hsz1; clear hold)
      · go_roundw
        case rel => exact ⟨P, I + 1, J, rfl, rfl, by omega, by omega, by omega, by omega, H1.out.up (by omega) (by omega), hown, hbel⟩
        case measure => simp [intOf]; omega
      · go_roundw
        case rel => exact ⟨P, I, J + 1, rfl, rfl, by omega, by omega, by omega, by omega, H1.out.up (by omega) (by omega), hown, hbel⟩
        case measure => simp [intOf]; omega
      · go_roundw
        case rel => exact ⟨P ++ [⟨I, J⟩], I + 1, J + 1, rfl, rfl, by omega, by omega, by omega, by omega, H1.out.snoc, own_sp (c := ⟨I, J⟩) hown1, hbel.trans hb1⟩
        case measure => simp [intOf]; omega
    · have hcase : m ≤ I ∨ (I < m ∧ n ≤ J) := by omega
      have hA := H1.out.up hI1 hJ1
      have hmem := hA.mem
      have H2 := hide hA
      have H3 := hide hmem
      clear hA hmem hlt
      rcases hcase with hc | ⟨hc, hc'⟩
      all_goals
        go_wp2_with fail
        refine (made63 _ P m n _ (Rd.of_own hown) (by omega) (fun s hs => by have := H3.out s hs; omega) (by omega) (by omega)).mono ?_
        rintro e w' ⟨v', rfl, hown', hb'⟩
        go_wp2_with fail
        go_ret2
        exact SecPost.mk H1.out hI1 hJ1 (by omega) (by omega) hbel ⟨v', rfl, hown', hb'⟩

set_option maxRecDepth 100000 in
set_option maxHeartbeats 400000 in
theorem ids45 (v : Value) (zs : List Int) (k n c : Int) (w : World) (hr : Rd w v 1 zs.length (inVals zs)) (hz : zs.length ≤ 9223372036854775807) (h0 : 0 ≤ k) (h2 : k ≤ 10000) (hn0 : 0 ≤ n) (hn1 : n ≤ 100) (hc0 : 1 ≤ c) (hc1 : c ≤ 100) :
    Calls Try.prog 45 #[v, .int .i64 k, .int .i64 n, .int .i64 c] w fun e w' => ∃ L : List Int, (L.length : Int) = n ∧ RetRow w 3 1 L.length (inVals L) e w' := by
  have HR := hide hr
  clear hr
  go_enter Try.func45, Try.ntmps45
  go_wp2_with fail
  go_loopw [9, 10] (fun v i wr => ∃ (K : Nat) (L : List Int), (K : Int) ≤ n ∧ i = .int .i64 K ∧ L.length = K ∧ wr.ownsRow w.heap.size 3 1 v L.length (inVals L) ∧ Below w.heap.size w wr)
    (fun _ i _ => n.toNat - (intOf i).toNat)
  case atStart => exact ⟨0, [], by omega, rfl, rfl, World.ownsRow_made w #[] 0 (Nat.le_refl _) (by simp) rfl, (Below.refl _ _).alloc (Nat.le_refl _) _⟩
  case round =>
    obtain ⟨K, L, hK, rfl, hL, hown, hbel⟩ := hrel
    have hbs := hbel.size
    have HLL := hide hL
    have hL1 : L.length ≤ 100 := by omega
    clear hL
    by_cases hlt : (K : Int) < n
    · go_wp2_with fail
      refine (at62 _ zs _ _ (HR.out.below hbel (Nat.le_refl _)) hz (by omega) (by omega)).mono ?_
      rintro e w' ⟨x, hx0, hx1, rfl, rfl⟩
      go_wp2_with fail
      refine (mod29 _ _ _ (by omega) (by omega)).mono ?_
      rintro e w' ⟨rfl, rfl⟩
      generalize gmod x c = y at *
      go_wp2_with (at_builtin; go_must (refine wp_app1 rfl (.tmp 17) (.tmp 25) 22 3 1 8 _ rfl Try.underlying22 info3 rfl (by omega) (by omega) wr _ w.heap.size L.length _ (inVals L) rfl _ _ rfl rfl hown hown (Nat.le_refl _) rfl rfl (by omega) hbs ?_); intro v1 w1 hown1 hb1 hold hsz1; clear hold)
      go_roundw
      case rel => exact ⟨K + 1, L ++ [y], by omega, by go_num, by rw [List.length_append, HLL.out]; rfl, own_in hown1, hbel.trans hb1⟩
      case measure => simp [intOf]; omega
    · go_wp2_with fail
      go_ret
      have := HLL.out
      exact ⟨L, by omega, _, rfl, hown, hbel⟩
end Go.Proofs.Ytagembkjmnfidaa
