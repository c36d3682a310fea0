import Derived.Test.YtagembkjmnfidaaBaseG
import Derived.StillTailTactics
import Derived.Deep.AppendLies
import Derived.Deep.RegionHeld3
namespace Go.Proofs.Ytagembkjmnfidaa
open Go.RowKit
open Go.Proofs.Ml
set_option linter.unusedVariables false

theorem inv_take {l : List Chg} {K : Nat} (hK : K < l.length) : inv (l.take (K + 1)) = inv (l.take K) ++ [l[K].swap] := by
  rw [List.take_succ_eq_append_getElem hK]; simp only [inv, List.map_append, List.map_cons, List.map_nil]
theorem inv_len (l : List Chg) : (inv l).length = l.length := by simp [inv]

set_option maxRecDepth 100000 in
set_option maxHeartbeats 800000 in
theorem inv52 (v : Value) (l : List Chg) (w : World) (hr : Rd w v 4 l.length (chVals l)) (hl : l.length ≤ 900000) :
    Calls Try.prog 52 #[v] w (RetRow w 45 4 (inv l).length (chVals (inv l))) := by
  obtain ⟨A, cap, rfl, hcap, hcap', hlen, hA⟩ := hr
  clear hlen hcap hcap'
  go_enter Try.func52, Try.ntmps52
  go_wp2_with fail
  go_loopw [3, 8] (fun v k wr => ∃ (K : Nat) (L : List Chg), K ≤ l.length ∧ k = .int .i64 K ∧ L.length = K ∧ wr.ownsRow w.heap.size 45 4 v L.length (chVals L) ∧ Below w.heap.size w wr ∧ L = inv (l.take K))
    (fun _ k _ => l.length - (intOf k).toNat)
  case atStart => exact ⟨0, [], by omega, rfl, rfl, World.ownsRow_nil _ _ _ _, Below.refl _ _, by simp [inv]⟩
  case round =>
    obtain ⟨K, L, hK, rfl, hL, hown, hbel, hinv⟩ := hrel
    have hbs := hbel.size
    have HLL := hide hL
    have hL1 : L.length ≤ 900000 := by omega
    by_cases hlt : K < l.length
    · obtain ⟨b, off, rfl, hb, hc⟩ := hA (by omega)
      have hbw : b < wr.heap.size := by omega
      obtain ⟨c0, c1, c2, c3⟩ := ch_cells hc hb hbel hlt
      have hS := inv_take hlt
      rw [← hinv] at hS
      have HS := hide hS
      clear hA hc hinv hS hL
      generalize l[K] = C at *
      obtain ⟨O, OL, N, NL⟩ := C
      simp only [Chg.swap] at c0 c1 c2 c3 HS
      go_wp2_with (at_builtin; go_must (refine wp_app1 rfl (.tmp 12) (.tmp 22) 23 45 4 32 _ rfl Try.underlying23 info45 rfl (by omega) (by omega) wr _ w.heap.size L.length _ (chVals L) rfl _ _ rfl (by simp) hown (hown.alloc _) (by simp) rfl rfl (by omega) hbs ?_); intro v1 w1 hown1 hb1 hold hsz1; clear hold)
      go_roundw
      case rel => exact ⟨K + 1, L ++ [⟨N, NL, O, OL⟩], by omega, by go_num, by rw [List.length_append, HLL.out]; rfl, own_ch (c := ⟨N, NL, O, OL⟩) hown1, (hbel.alloc hbs _).trans hb1, HS.out.symm⟩
      case measure => simp [intOf]; omega
    · have hE := hide hinv
      clear hA hinv hL
      go_wp2_with fail
      go_ret
      have hE := hE.out
      rw [List.take_of_length_le (by omega)] at hE
      exact ret_row hown hbel (by rw [hE]) (by rw [hE])

set_option maxRecDepth 100000 in
set_option maxHeartbeats 1600000 in
theorem inv53 (v : Value) (l : List Chg) (w : World) (hr : Rd w v 4 l.length (chVals l)) (hl : l.length ≤ 900000) :
    Calls Try.prog 53 #[v] w (RetRow w 45 4 (inv l).length (chVals (inv l))) := by
  obtain ⟨A, cap, rfl, hcap, hcap', hlen, hA⟩ := hr
  clear hlen hcap hcap'
  go_enter Try.func53, Try.ntmps53
  go_wp2_with fail
  go_loopw [3, 4] (fun v k wr => ∃ (K : Nat) (L : List Chg), K ≤ l.length ∧ k = .int .i64 K ∧ L.length = K ∧ wr.ownsRow w.heap.size 45 4 v L.length (chVals L) ∧ Below w.heap.size w wr ∧ L = inv (l.take K))
    (fun _ k _ => l.length - (intOf k).toNat)
  case atStart => exact ⟨0, [], by omega, rfl, rfl, World.ownsRow_nil _ _ _ _, Below.refl _ _, by simp [inv]⟩
  case round =>
    obtain ⟨K, L, hK, rfl, hL, hown, hbel, hinv⟩ := hrel
    have hbs := hbel.size
    have HLL := hide hL
    have hL1 : L.length ≤ 900000 := by omega
    by_cases hlt : K < l.length
    · obtain ⟨b, off, rfl, hb, hc⟩ := hA (by omega)
      have hbw : b < wr.heap.size := by omega
      obtain ⟨c0, c1, c2, c3⟩ := ch_cells hc hb hbel hlt
      have hS := inv_take hlt
      rw [← hinv] at hS
      have HS := hide hS
      clear hA hc hinv hS hL
      generalize l[K] = C at *
      obtain ⟨O, OL, N, NL⟩ := C
      simp only [Chg.swap] at c0 c1 c2 c3 HS
      have k0 : (0 : Int) ≤ (K : Int) := by omega
      have k1 : (K : Int) < (l.length : Int) := by omega
      go_wp2_with fail
      go_region_held3 (fun w' => w'.cell? ⟨b, off + K * 4, none⟩ = some (.int .i64 O) ∧ w'.cell? ⟨b, off + K * 4 + 1, none⟩ = some (.int .i64 OL) ∧ w'.cell? ⟨b, off + K * 4 + 2, none⟩ = some (.int .i64 N) ∧ w'.cell? ⟨b, off + K * 4 + 3, none⟩ = some (.int .i64 NL))
        (first | go_keep | exact ⟨(hb2.cell (p := ⟨b, off + K * 4, none⟩) hb).trans c0, (hb2.cell (p := ⟨b, off + K * 4 + 1, none⟩) hb).trans c1, (hb2.cell (p := ⟨b, off + K * 4 + 2, none⟩) hb).trans c2, (hb2.cell (p := ⟨b, off + K * 4 + 3, none⟩) hb).trans c3⟩)
        ((refine step_app1 rfl (.tmp 11) (.tmp 33) 23 45 4 32 _ (by rfl) Try.underlying23 info45 rfl (by omega) (by omega) wr wr.drew w.heap.size L.length _ (chVals L) (by rfl) _ _ (by rfl) rfl (by rfl) hown (own_drew hown) (Nat.le_refl _) rfl rfl (by omega) hbs ?_; intro v2 w2 hown2 hb2 hold hsz2))
      clear hold
      go_wp2_with fail
      go_roundw
      case rel => exact ⟨K + 1, L ++ [⟨N, NL, O, OL⟩], by omega, by go_num, by rw [List.length_append, HLL.out]; rfl, own_ch (c := ⟨N, NL, O, OL⟩) hown2, hbel.trans ((Below.refl _ wr).drew.trans hb2), HS.out.symm⟩
      case measure => simp [intOf]; omega
    · have hE := hide hinv
      clear hA hinv hL
      go_wp2_with fail
      go_ret
      have hE := hE.out
      rw [List.take_of_length_le (by omega)] at hE
      exact ret_row hown hbel (by rw [hE]) (by rw [hE])
end Go.Proofs.Ytagembkjmnfidaa
