import Derived.Test.YtbjbcfiieacamaaGreatDoorUE
namespace Go.Proofs.YtbjbcfiieacamaaGreatDoor
open Go.RowKit
set_option linter.unusedVariables false

theorem tot_take (xs : List ByteArray) (I : Nat) (hI : I < xs.length) : tot (xs.take (I + 1)) = tot (xs.take I) + (xs[I]'hI).size := by
  rw [List.take_succ_eq_append_getElem hI, tot_app, tot_one]
theorem tot_take_le (xs : List ByteArray) (I : Nat) : tot (xs.take I) ≤ tot xs := by
  have h := tot_app (xs.take I) (xs.drop I)
  rw [List.take_append_drop] at h
  omega

set_option maxRecDepth 100000 in
set_option maxHeartbeats 400000 in
theorem near12 (s : ByteArray) (v : Value) (zs : List Int) (k : Int) (w : World) (hs : s.size ≤ 400) (hr : Rd w v 1 zs.length (inVals zs)) (hz : zs.length ≤ 9223372036854775807) (h0 : 0 ≤ k) (h2 : k ≤ 10000) :
    Calls Tryz.prog 12 #[.string s, v, .int .i64 k] w fun e w' => ∃ t : ByteArray, t.size ≤ 2000 ∧ e = .returned (.string t) ∧ Below w.heap.size w w' := by
  have HR := hide hr
  clear hr
  have e4 : IntKind.i64.wrap (k + 40) = k + 40 := IntWalk.i64_in _ ⟨by omega, by omega⟩
  go_enter Tryz.func12, Tryz.ntmps12
  go_wp2_with fail
  refine (lines24 s w (by omega)).mono ?_
  rintro e w1 ⟨lv, xs, rfl, hx, hxl, hxt, hb1⟩
  obtain ⟨A, cap, rfl, q1, q2, q3, hA⟩ := hx
  have HA := hide hA
  have HR1 := hide (HR.out.below hb1 (Nat.le_refl _))
  have HB1 := hide hb1
  clear hA hb1
  go_wp2_with fail
  go_loopw [8, 9] (fun t i wr => ∃ (u : ByteArray) (I : Int), t = .string u ∧ i = .int .i64 I ∧ 0 ≤ I ∧ I ≤ xs.length ∧ (u.size : Int) ≤ tot (xs.take I.toNat) + 4 * I ∧ Below w1.heap.size w1 wr)
    (fun _ i _ => ((xs.length : Int) - intOf i).toNat)
  case atStart => exact ⟨⟨#[]⟩, 0, rfl, rfl, by omega, by omega, by show (0 : Int) ≤ _; omega, Below.refl _ _⟩
  case round =>
    obtain ⟨u, I, rfl, rfl, hI0, hI1, hu, hbel⟩ := hrel
    by_cases hlt : I < xs.length
    · have e5 : IntKind.i64.wrap (I + 1) = I + 1 := IntWalk.i64_in _ ⟨by omega, by omega⟩
      have e6 : IntKind.i64.wrap (k + I) = k + I := IntWalk.i64_in _ ⟨by omega, by omega⟩
      have e7 : IntKind.i64.wrap (k + 40 + I) = k + 40 + I := IntWalk.i64_in _ ⟨by omega, by omega⟩
      obtain ⟨b, off, rfl, hb, hc⟩ := HA.out (by omega)
      have hlt' : I.toNat < xs.length := by omega
      have hx0 : wr.cell? ⟨b, off + I.toNat, none⟩ = some (.string (xs[I.toNat]'hlt')) := (hbel.cell (p := ⟨b, off + I.toNat, none⟩) hb).trans (hc I.toNat _ (by simp))
      have htk := tot_take xs I.toNat hlt'
      obtain ⟨ln, hln⟩ : ∃ ln, ln = xs[I.toNat]'hlt' := ⟨_, rfl⟩
      rw [← hln] at hx0 htk
      clear hln hc
      have t1 := tot_take_le xs I.toNat
      have t2 := tot_take_le xs (I.toNat + 1)
      have hub : u.size ≤ 2000 := by omega
      have hlb : ln.size ≤ 400 := by omega
      have hbr : b < wr.heap.size := Nat.lt_of_lt_of_le hb hbel.size
      have htn : (I + 1).toNat = I.toNat + 1 := by omega
      go_wp2_with fail
      refine (at11 _ zs _ _ (HR1.out.below hbel (Nat.le_refl _)) hz (by omega) (by omega)).mono ?_
      rintro e w' ⟨z, hz0, hz1, rfl, rfl⟩
      go_wp2_with fail
      · exact ⟨⟨u, I + 1, rfl, rfl, by omega, by omega, by rw [htn, htk]; omega, hbel⟩, by simp [intOf]; omega⟩
      · refine (at11 _ zs _ _ (HR1.out.below hbel (Nat.le_refl _)) hz (by omega) (by omega)).mono ?_
        rintro e w' ⟨z2, hz2, hz3, rfl, rfl⟩
        go_wp2_with fail
        refine (line23 _ _).mono ?_
        rintro e w3 ⟨l, hl, rfl, hb3⟩
        have hx3 := (hb3.cell (p := ⟨b, off + I.toNat, none⟩) hbr).trans hx0
        go_wp2_with fail
        refine ⟨⟨_, I + 1, rfl, rfl, by omega, by omega, ?_, hbel.trans (hb3.mono hbel.size)⟩, by simp [intOf]; omega⟩
        have h1 : (⟨#[10]⟩ : ByteArray).size = 1 := rfl
        rw [htn, htk]
        simp only [ByteArray.size_append, h1]
        omega
      · refine ⟨⟨_, I + 1, rfl, rfl, by omega, by omega, ?_, hbel⟩, by simp [intOf]; omega⟩
        rw [htn, htk]
        simp only [ByteArray.size_append]
        omega
    · go_wp2_with fail
      go_ret
      have := tot_take_le xs I.toNat
      exact ⟨u, by omega, rfl, HB1.out.trans (hbel.mono HB1.out.size)⟩
end Go.Proofs.YtbjbcfiieacamaaGreatDoor
