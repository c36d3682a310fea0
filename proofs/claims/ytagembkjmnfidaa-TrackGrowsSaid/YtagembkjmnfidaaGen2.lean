import Derived.Test.YtagembkjmnfidaaGen
import Derived.Test.YtagembkjmnfidaaMade
namespace Go.Proofs.Ytagembkjmnfidaa
open Go.RowKit
open Go.Proofs.Ml
set_option linter.unusedVariables false

/-- What gen.Script hands back: a valid script of short texts, in memory of its own. -/
def ScriptPost (w : World) (e : Ending) (w' : World) : Prop := ∃ (v : Value) (l : List Chg) (m n : Int), e = .returned (.tuple #[v, .int .i64 m, .int .i64 n]) ∧ valid l m n = true ∧ m ≤ 9 ∧ n ≤ 9 ∧ l.length ≤ 18 ∧ w'.ownsRow w.heap.size 45 4 v l.length (chVals l) ∧ Below w.heap.size w w'
theorem ScriptPost.mk {w w' w1 : World} {p : List Spn} {m n I J : Int} {v : Value} (hp : Asc 0 0 p I J) (hI : I ≤ m) (hJ : J ≤ n) (hm : m ≤ 9) (hn : n ≤ 9) (hb : Below w.heap.size w w1) (hr : RetRow w1 45 4 (made 0 0 p m n).length (chVals (made 0 0 p m n)) (.returned v) w') :
    ScriptPost w (.returned (.tuple #[v, .int .i64 m, .int .i64 n])) w' := by
  obtain ⟨v', e, hown, hb'⟩ := hr
  injection e with e
  subst e
  have ha := hp.up hI hJ
  have hv := made_valid ha (by omega) (by omega)
  have hl := (valid_val hv).length
  refine ⟨v, made 0 0 p m n, m, n, rfl, hv, hm, hn, by omega, ?_, hb.trans (hb'.mono hb.size)⟩
  exact own_base hown hb.size

set_option maxRecDepth 100000 in
set_option maxHeartbeats 400000 in
theorem script27 (v : Value) (zs : List Int) (k : Int) (w : World) (hr : Rd w v 1 zs.length (inVals zs)) (hz : zs.length ≤ 9223372036854775807) (h0 : 0 ≤ k) (h2 : k ≤ 10000) :
    Calls Try.prog 27 #[v, .int .i64 k] w (ScriptPost w) := by
  have HR := hide hr
  clear hr
  go_enter Try.func27, Try.ntmps27
  go_wp2_with fail
  refine (at62 _ zs _ _ HR.out hz (by omega) (by omega)).mono ?_
  rintro e w' ⟨x, hx0, hx1, rfl, rfl⟩
  go_wp2_with fail
  refine (mod29 _ _ _ (by omega) (by omega)).mono ?_
  rintro e w' ⟨rfl, rfl⟩
  obtain ⟨hm0, hm1⟩ := gmod_range x 10 (by omega) (by omega)
  generalize gmod x 10 = m at *
  go_wp2_with fail
  refine (at62 _ zs _ _ HR.out hz (by omega) (by omega)).mono ?_
  rintro e w' ⟨y, hy0, hy1, rfl, rfl⟩
  go_wp2_with fail
  refine (mod29 _ _ _ (by omega) (by omega)).mono ?_
  rintro e w' ⟨rfl, rfl⟩
  obtain ⟨hn0, hn1⟩ := gmod_range y 10 (by omega) (by omega)
  generalize gmod y 10 = n at *
  go_wp2_with fail
  go_loopw [9, 10, 11] (fun v i j wr => ∃ (P : List Spn) (I J : Int), i = .int .i64 I ∧ j = .int .i64 J ∧ 0 ≤ I ∧ I ≤ m ∧ 0 ≤ J ∧ J ≤ n ∧ Asc 0 0 P I J ∧ wr.ownsRow w.heap.size 35 2 v P.length (spVals P) ∧ Below w.heap.size w wr)
    (fun _ i j _ => (m - intOf i).toNat + (n - intOf j).toNat)
  case atStart => exact ⟨[], 0, 0, rfl, rfl, by omega, by omega, by omega, by omega, ⟨by omega, by omega⟩, World.ownsRow_nil _ _ _ _, Below.refl _ _⟩
  case round =>
    obtain ⟨P, I, J, rfl, rfl, hI0, hI1, hJ0, hJ1, hP, hown, hbel⟩ := hrel
    have hbs := hbel.size
    have hPl := hP.length
    have H1 := hide hP
    clear hP
    by_cases hlt : I < m ∧ J < n
    · obtain ⟨hlt1, hlt2⟩ := hlt
      go_wp2_with fail
      refine (at62 _ zs _ _ (HR.out.below hbel (Nat.le_refl _)) hz (by omega) (by omega)).mono ?_
      rintro e w' ⟨z, hz0, hz1, rfl, rfl⟩
      go_wp2_with (at_builtin; go_must (refine wp_app1 rfl (.tmp 39) (.tmp 43) 50 35 2 16 _ rfl Try.underlying50 info35 rfl (by omega) (by omega) wr _ w.heap.size P.length _ (spVals P) rfl _ _ rfl rfl hown hown (Nat.le_refl _) rfl rfl (by omega) hbs ?_); intro v1 w1 hown1 hb1 hold hsz1; clear hold)
      · go_roundw
        case rel => exact ⟨P, I + 1, J, rfl, rfl, by omega, by omega, by omega, by omega, H1.out.up (by omega) (by omega), hown, hbel⟩
        case measure => simp [intOf]; omega
      · go_roundw
        case rel => exact ⟨P, I, J + 1, rfl, rfl, by omega, by omega, by omega, by omega, H1.out.up (by omega) (by omega), hown, hbel⟩
        case measure => simp [intOf]; omega
      · go_roundw
        case rel => exact ⟨P ++ [⟨I, J⟩], I + 1, J + 1, rfl, rfl, by omega, by omega, by omega, by omega, H1.out.snoc, own_sp (c := ⟨I, J⟩) hown1, hbel.trans hb1⟩
        case measure => simp [intOf]; omega
    · have hcase : m ≤ I ∨ (I < m ∧ n ≤ J) := by omega
      have hA := H1.out.up hI1 hJ1
      have hmem := hA.mem
      have H2 := hide hA
      have H3 := hide hmem
      clear hA hmem hlt
      rcases hcase with hc | ⟨hc, hc'⟩
      all_goals
        go_wp2_with fail
        refine (made63 _ P m n _ (Rd.of_own hown) (by omega) (fun s hs => by have := H3.out s hs; omega) (by omega) (by omega)).mono ?_
        rintro e w' ⟨v', rfl, hown', hb'⟩
        go_wp2_with fail
        go_ret3
        exact ScriptPost.mk H1.out hI1 hJ1 (by omega) (by omega) hbel ⟨v', rfl, hown', hb'⟩
end Go.Proofs.Ytagembkjmnfidaa
