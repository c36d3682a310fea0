/- TopBeyond itself: two blobs above the bounds, the four ways to lay one of them into the list, and what the calls answer. -/
import Derived.Test.YtbjbcfiieacamaaGreatDoorUH
import Derived.Test.YtbjbcfiieacamaaGreatDoorUI
namespace Go.Proofs.YtbjbcfiieacamaaGreatDoor
open Go.RowKit
set_option linter.unusedVariables false
/-- Blobs refuses it: it is above a bound. -/
def Bd (s : ByteArray) : Prop := ∀ w, Calls Tryz.prog 35 #[.string s] w fun e w' => e = .returned (.int .i64 1) ∧ w = w'
def Bad3 (s0 s1 s2 : ByteArray) : Prop := Bd s0 ∨ (s0.size ≤ 3000 ∧ Bd s1) ∨ (s0.size ≤ 3000 ∧ s1.size ≤ 3000 ∧ Bd s2)
theorem size_rep (n : Nat) (b : UInt8) : (⟨(List.replicate n b).toArray⟩ : ByteArray).size = n := by
  show (List.replicate n b).toArray.size = n
  simp
theorem count_rep : ∀ n : Nat, Lib.countByte (List.replicate n 10) 10 = n
  | 0 => rfl
  | n + 1 => by rw [List.replicate_succ]; simp [Lib.countByte]
theorem make8_bad (s0 s1 s2 : ByteArray) (A : Option Addr) (c : Nat) (w : World) (hr : Rd w (.slice A 2 c) 1 2 [.string s1, .string s2]) (hm : Mx w) (hb : Bad3 s0 s1 s2) :
    Calls Tryz.prog 8 #[.string s0, .slice A 2 c] w fun e w' => e = .returned (.tuple #[.agg #[.int .i64 0, .slice none 0 0], .int .i64 1]) ∧ Below w.heap.size w w' := by
  rcases hb with h | ⟨k, h⟩ | ⟨k, k', h⟩
  · exact make8_bad0 s0 s1 s2 A c w hr hm h
  · exact make8_bad1 s0 s1 s2 A c w hr hm k h
  · exact make8_bad2 s0 s1 s2 A c w hr hm k k' h
theorem set4 {N b : Nat} {w x : World} {u0 u1 u2 u3 : Value} (h : Below N w x) (hb : N ≤ b) : Below N w ((((x.setCell ⟨b, 0, none⟩ u0).setCell ⟨b, 1, none⟩ u1).setCell ⟨b, 2, none⟩ u2).setCell ⟨b, 3, none⟩ u3) :=
  (((h.setCell (p := ⟨b, 0, none⟩) hb _).setCell (p := ⟨b, 1, none⟩) hb _).setCell (p := ⟨b, 2, none⟩) hb _).setCell (p := ⟨b, 3, none⟩) hb _
theorem set2 {N b : Nat} {w x : World} {u0 u1 : Value} (h : Below N w x) (hb : N ≤ b) : Below N w ((x.setCell ⟨b, 0, none⟩ u0).setCell ⟨b, 1, none⟩ u1) :=
  (h.setCell (p := ⟨b, 0, none⟩) hb _).setCell (p := ⟨b, 1, none⟩) hb _
theorem Bd.big (n : Nat) (hn : n = 1048577) : Bd ⟨(List.replicate n 0).toArray⟩ := fun w => check35_big _ w (by rw [size_rep]; omega) (by rw [size_rep]; omega)
theorem Bd.many (n : Nat) (hn : n = 4097) : Bd ⟨(List.replicate n 10).toArray⟩ := fun w => check35_many _ w (by
  show 4096 < Lib.countByte (List.replicate n 10).toArray.toList 10
  rw [List.toList_toArray, count_rep]; omega) (by rw [size_rep]; omega)
set_option maxRecDepth 100000 in
set_option maxHeartbeats 4000000 in
theorem top3_of (v : Value) (zs : List Int) (k : Int) (w : World) (hr : Rd w v 1 zs.length (inVals zs)) (hz : zs.length ≤ 9223372036854775807) (hm : Mx w) 
   (H4 : Hid (∀ w, Rd w v 1 zs.length (inVals zs) → Calls Tryz.prog 4 #[v, .int .i64 3, .int .i64 4] w fun e w' => ∃ (u : Value) (xs : List ByteArray), e = .returned u ∧ xs.length = 3 ∧ (∀ x ∈ xs, x.size ≤ 2000) ∧ Rd w' u 1 xs.length (xs.map .string) ∧ Below w.heap.size w w')) :
    Calls Tryz.prog 3 #[v, .int .i64 k] w fun e w' => e = .returned (.bool true) ∧ Below w.heap.size w w' := by
  have HR := hide hr
  have HM := hide hm
  clear hr hm
  obtain ⟨i0, hi, hz0, hz1, hz2⟩ := info_parts info5
  obtain ⟨N1, hN1⟩ : ∃ N1 : Nat, N1 = 1048577 := ⟨_, rfl⟩
  obtain ⟨N2, hN2⟩ : ∃ N2 : Nat, N2 = 4097 := ⟨_, rfl⟩
  have hC1 : (1048577 : Int) = (N1 : Int) := by omega
  have hC2 : (4097 : Int) = (N2 : Int) := by omega
  go_enter Tryz.func3, Tryz.ntmps3
  go_upto_region 2 with (at_make; go_must (refine wpList_make_full _ rfl _ _ 23 rfl w.heap.size 5 i0 _ 1 Tryz.underlying23 hi hz0 hz1 _ _ _ _ N1 rfl rfl hC1 hC1 (by rw [hz2]; omega) (by simp only [maxLen]; omega) (Nat.le_refl _) ?_); intro w1 hown1 hg1)
  go_wp2_with (at_make; go_must (refine wpList_make_full _ rfl _ _ 23 rfl w.heap.size 5 i0 _ 1 Tryz.underlying23 hi hz0 hz1 _ _ _ _ N2 rfl rfl hC2 hC2 (by rw [hz2]; omega) (by simp only [maxLen]; omega) hg1.size ?_); intro w2 hown2 hg2)
  obtain ⟨B, hB⟩ : ∃ B, B = w.heap.size := ⟨_, rfl⟩
  obtain ⟨M, hM⟩ : ∃ M, M = w1.heap.size := ⟨_, rfl⟩
  rw [← hB] at hown1
  rw [← hM] at hown2
  rw [← hB, ← hM]
  have hBM : B < M := by
    obtain ⟨_, h | ⟨g, cap, cur, he, h0, h1, _⟩⟩ := hown1
    · omega
    · injection he with he
      injection he with he
      injection he with he
      rw [hM, he]
      exact (Array.getElem?_eq_some_iff.1 h1).1
  have hbig : Bts w1 B (List.replicate N1 0) := ⟨by omega, fun j hj => by
    have h0 := hown1.cells (g := B) rfl j (.int .u8 (((List.replicate N1 (0 : UInt8))[j]).toNat : Int)) (by rw [made_bytes, List.getElem?_map, List.getElem?_eq_getElem hj]; rfl)
    rwa [add_head] at h0⟩
  have hb12 : Below M w1 w2 := ⟨hg2.os, hg2.tape, hg2.output, hg2.size, fun i hi => hg2.block i (by omega) (by simp)⟩
  have hb01 : Below B w w1 := ⟨hg1.os, hg1.tape, hg1.output, hg1.size, fun i hi => hg1.block i (by omega) (by simp)⟩
  have HBIG := hide (hbig.below hb12 hBM)
  have HB02 := hide (hb01.trans (hb12.mono (Nat.le_of_lt hBM)))
  obtain ⟨cur0, hblk, hcs⟩ : ∃ cur, Blk w2 M 5 cur ∧ cur.size = N2 := by
    obtain ⟨_, h | ⟨g, cap, cur, he, h0, h1, _, _, h2, _⟩⟩ := hown2
    · omega
    · injection he with he he2 he3
      injection he with he
      injection he with he
      subst he he3
      exact ⟨cur, h1, by omega⟩
  have HBLK := hide hblk
  have HCS := hide hcs
  have HBM := hide hBM
  have HMeq := hide hM
  have HBeq := hide hB
  have HN1 := hide hN1
  have HN2 := hide hN2
  clear hown1 hown2 hg1 hg2 hbig hb12 hb01 hblk hcs hBM hM hB hC1 hC2 hi hz0 hz1 hz2 hN1 hN2
  go_loopw [7] (fun i wr => ∃ (I : Nat) (cur : Array Value), i = .int .i64 (I : Int) ∧ I ≤ N2 ∧ Blk wr M 5 cur ∧ cur.size = N2 ∧ (∀ j, j < I → cur[j]? = some (.int .u8 10)) ∧ Below M w2 wr)
    (fun i _ => N2 - (intOf i).toNat)
  case atStart => exact ⟨0, cur0, rfl, by omega, HBLK.out, HCS.out, by omega, Below.refl _ _⟩
  case round =>
    obtain ⟨I, cur, rfl, hI, hblk, hcs, hall, hbel⟩ := hrel
    have HK := hide hblk
    have HA := hide hall
    have HL := hide hbel
    have HC := hide hcs
    have lM := hblk.lt
    clear hblk hall hbel hcs
    have hN := HN2.out
    by_cases hlt : I < N2
    · have e5 : IntKind.i64.wrap ((I : Int) + 1) = (I : Int) + 1 := IntWalk.i64_in _ ⟨by omega, by omega⟩
      have hc : wr.cell? ⟨M, I, none⟩ = some (cur[I]'(by rw [HC.out]; exact hlt)) := by rw [HK.out.cell]; exact Array.getElem?_eq_getElem (by rw [HC.out]; exact hlt)
      have hf := HK.out.frozen I
      have hI0 : (0 : Int) ≤ (I : Int) := by omega
      have hI1 : (I : Int) < 4097 := by omega
      have hd : decide ((I : Int) < 4097) = true := decide_eq_true hI1
      clear hN
      go_wp2_with fail
      refine ⟨⟨I + 1, cur.setIfInBounds I (.int .u8 10), by simp, by omega, HK.out.set_ I _, by rw [Array.size_setIfInBounds]; exact HC.out, fun j hj => ?_, HL.out.setCell (p := ⟨M, I, none⟩) (Nat.le_refl _) _⟩, by simp [intOf]; omega⟩
      rcases Nat.lt_or_ge j I with h | h
      · rw [Array.getElem?_setIfInBounds_ne (by omega)]
        exact HA.out j h
      · obtain rfl : j = I := by omega
        exact Array.getElem?_setIfInBounds_self_of_lt (by rw [HC.out]; exact hlt)
    · have hI1 : ¬ (I : Int) < 4097 := by omega
      have hd : decide ((I : Int) < 4097) = false := decide_eq_false hI1
      have hI2 : I = 4097 := by omega
      have HI2 := hide hI2
      clear hN hI2 hlt hI
      go_wp2_with fail
      clear hd hI1
      have HMANY := hide (show Bts wr M (List.replicate N2 10) from ⟨lM, fun j hj => by
        have hj' : j < N2 := by simpa using hj
        rw [HK.out.cell, HA.out j (by have := HI2.out; have := HN2.out; omega), List.getElem_replicate]
        rfl⟩)
      have HBG := hide (HBIG.out.below HL.out HBM.out)
      have HB := hide (HB02.out.trans (HL.out.mono (Nat.le_of_lt HBM.out)))
      clear HK HA HL HC HI2 HBIG HB02 HBLK HCS
      refine (H4.out _ (HR.out.below HB.out (Nat.le_of_eq HBeq.out.symm))).mono ?_
      rintro e w3 ⟨u, xs, rfl, hxl, hxs, hru, hb3⟩
      have HMN := hide (HMANY.out.below hb3 lM)
      have HBN := hide (HBG.out.below hb3 (Nat.lt_trans HBM.out lM))
      have HB3 := hide (HB.out.trans (hb3.mono (Nat.le_trans (Nat.le_of_lt HBM.out) (Nat.le_of_lt lM))))
      have HR3 := hide (HR.out.below HB3.out (Nat.le_of_eq HBeq.out.symm))
      have HM3 := hide (HM.out.self (HBeq.out ▸ HB3.out))
      obtain ⟨x0, x1, x2, rfl⟩ : ∃ x0 x1 x2, xs = [x0, x1, x2] := by
        rcases xs with _ | ⟨x0, _ | ⟨x1, _ | ⟨x2, _ | ⟨x3, r⟩⟩⟩⟩
        all_goals first | exact ⟨_, _, _, rfl⟩ | (simp at hxl)
      have k0 : x0.size ≤ 2000 := hxs x0 (by simp)
      have k1 : x1.size ≤ 2000 := hxs x1 (by simp)
      have k2 : x2.size ≤ 2000 := hxs x2 (by simp)
      have HRU := hide (show Rd w3 u 1 3 [.string x0, .string x1, .string x2] from hru)
      obtain ⟨A, cu, rfl, hu1, hu2, _, hu3⟩ := HRU.out
      clear hru
      obtain ⟨ub, uo, rfl, lub, hu4⟩ := hu3 (by omega)
      have HE0 : w3.cell? ⟨ub, uo, none⟩ = some (.string x0) := hu4 0 _ rfl
      have HE1 : w3.cell? ⟨ub, uo + 1, none⟩ = some (.string x1) := hu4 1 _ rfl
      have HE2 : w3.cell? ⟨ub, uo + 2, none⟩ = some (.string x2) := hu4 2 _ rfl
      have HU0 := hide HE0
      have HU1 := hide HE1
      have HU2 := hide HE2
      clear hxl hxs hb3 hu3 hu4 hu1 hu2 HE0 HE1 HE2 HMANY HBG HB lM
      have hbig := Bd.big N1 HN1.out
      have hmany := Bd.many N2 HN2.out
      go_upto_region 8 with fail
      go_cut [9] from 18 (fun v9 wc => ∃ (g : Nat) (s0 s1 s2 : ByteArray), v9 = .slice (some ⟨g, 0, none⟩) 3 3 ∧ Rd wc v9 1 3 [.string s0, .string s1, .string s2] ∧ Bad3 s0 s1 s2 ∧ Below w3.heap.size w3 wc)
      case first =>
        refine wp_region_held_drew (S := fun x => Below w3.drew.heap.size w3.drew x) (by kernel_rfl) (Below.refl _ _) (fun hS => ?_)
        have HBN4 := hide (show Bts w3.drew B (List.replicate N1 0) from HBN.out)
        have HMN4 := hide (show Bts w3.drew M (List.replicate N2 10) from HMN.out)
        have HV0 := hide (show w3.drew.cell? ⟨ub, uo, none⟩ = some (.string x0) from HU0.out)
        have HV1 := hide (show w3.drew.cell? ⟨ub, uo + 1, none⟩ = some (.string x1) from HU1.out)
        have HV2 := hide (show w3.drew.cell? ⟨ub, uo + 2, none⟩ = some (.string x2) from HU2.out)
        have lub4 : ub < w3.drew.heap.size := lub
        have hb34 : Below w3.heap.size w3 w3.drew := (Below.refl _ _).drew
        have hs34 : w3.drew.heap.size = w3.heap.size := rfl
        generalize w3.drew = w4 at *
        have HS4 := hide hs34
        have HB34 := hide hb34
        have hS4 : Below w4.heap.size w4 w4 := Below.refl _ _
        clear hS hs34 hb34
        refine takeH 0 31 (.slice (some ⟨B, 0, none⟩) 1048577 1048577) rfl rfl (by kernel_rfl) (by kernel_rfl) (by kernel_rfl) (fun _ _ _ h => h) (by rfl) (fun x hx => by go_simp) hS4 ?_
        simp only [List.setIfInBounds_toArray, List.set_cons_zero, List.set_cons_succ]
        refine takeH 1 32 (.string ⟨(List.replicate N1 0).toArray⟩) rfl rfl (by kernel_rfl) (by kernel_rfl) (by kernel_rfl) (fun _ _ _ h => h) (by rfl) (fun x hx => by have hc := (HBN4.out.below hx HBN4.out.1).conv (n := 1048577) (by rw [List.length_replicate]; exact HN1.out.symm) 1048577; go_simp) hS4 ?_
        simp only [List.setIfInBounds_toArray, List.set_cons_zero, List.set_cons_succ]
        refine takeH 2 33 (.slice (some ⟨ub, uo, none⟩) 3 cu) rfl rfl (by kernel_rfl) (by kernel_rfl) (by kernel_rfl) (fun _ _ _ h => h) (by rfl) (fun x hx => by go_simp) hS4 ?_
        simp only [List.setIfInBounds_toArray, List.set_cons_zero, List.set_cons_succ]
        refine takeH 3 34 (.pointer (some ⟨ub, uo + 1, none⟩)) rfl rfl (by kernel_rfl) (by kernel_rfl) (by kernel_rfl) (fun _ _ _ h => h) (by rfl) (fun x hx => by go_simp) hS4 ?_
        simp only [List.setIfInBounds_toArray, List.set_cons_zero, List.set_cons_succ]
        refine takeH 4 35 (.string x1) rfl rfl (by kernel_rfl) (by kernel_rfl) (by kernel_rfl) (fun _ _ _ h => h) (by rfl) (fun x hx => by have hc := (hx.cell (p := ⟨ub, uo + 1, none⟩) lub4).trans HV1.out; go_simp) hS4 ?_
        simp only [List.setIfInBounds_toArray, List.set_cons_zero, List.set_cons_succ]
        refine takeH 5 36 (.slice (some ⟨ub, uo, none⟩) 3 cu) rfl rfl (by kernel_rfl) (by kernel_rfl) (by kernel_rfl) (fun _ _ _ h => h) (by rfl) (fun x hx => by go_simp) hS4 ?_
        simp only [List.setIfInBounds_toArray, List.set_cons_zero, List.set_cons_succ]
        refine takeH 6 37 (.pointer (some ⟨ub, uo + 2, none⟩)) rfl rfl (by kernel_rfl) (by kernel_rfl) (by kernel_rfl) (fun _ _ _ h => h) (by rfl) (fun x hx => by go_simp) hS4 ?_
        simp only [List.setIfInBounds_toArray, List.set_cons_zero, List.set_cons_succ]
        refine takeH 7 38 (.string x2) rfl rfl (by kernel_rfl) (by kernel_rfl) (by kernel_rfl) (fun _ _ _ h => h) (by rfl) (fun x hx => by have hc := (hx.cell (p := ⟨ub, uo + 2, none⟩) lub4).trans HV2.out; go_simp) hS4 ?_
        simp only [List.setIfInBounds_toArray, List.set_cons_zero, List.set_cons_succ]
        refine takeH 9 40 (.slice (some ⟨ub, uo, none⟩) 3 cu) rfl rfl (by kernel_rfl) (by kernel_rfl) (by kernel_rfl) (fun _ _ _ h => h) (by rfl) (fun x hx => by go_simp) hS4 ?_
        simp only [List.setIfInBounds_toArray, List.set_cons_zero, List.set_cons_succ]
        refine takeH 10 41 (.pointer (some ⟨ub, uo, none⟩)) rfl rfl (by kernel_rfl) (by kernel_rfl) (by kernel_rfl) (fun _ _ _ h => h) (by rfl) (fun x hx => by go_simp) hS4 ?_
        simp only [List.setIfInBounds_toArray, List.set_cons_zero, List.set_cons_succ]
        refine takeH 11 42 (.string x0) rfl rfl (by kernel_rfl) (by kernel_rfl) (by kernel_rfl) (fun _ _ _ h => h) (by rfl) (fun x hx => by have hc := (hx.cell (p := ⟨ub, uo, none⟩) lub4).trans HV0.out; go_simp) hS4 ?_
        simp only [List.setIfInBounds_toArray, List.set_cons_zero, List.set_cons_succ]
        refine takeH 12 43 (.slice (some ⟨ub, uo, none⟩) 3 cu) rfl rfl (by kernel_rfl) (by kernel_rfl) (by kernel_rfl) (fun _ _ _ h => h) (by rfl) (fun x hx => by go_simp) hS4 ?_
        simp only [List.setIfInBounds_toArray, List.set_cons_zero, List.set_cons_succ]
        refine takeH 13 44 (.pointer (some ⟨ub, uo + 1, none⟩)) rfl rfl (by kernel_rfl) (by kernel_rfl) (by kernel_rfl) (fun _ _ _ h => h) (by rfl) (fun x hx => by go_simp) hS4 ?_
        simp only [List.setIfInBounds_toArray, List.set_cons_zero, List.set_cons_succ]
        refine takeH 14 45 (.string x1) rfl rfl (by kernel_rfl) (by kernel_rfl) (by kernel_rfl) (fun _ _ _ h => h) (by rfl) (fun x hx => by have hc := (hx.cell (p := ⟨ub, uo + 1, none⟩) lub4).trans HV1.out; go_simp) hS4 ?_
        simp only [List.setIfInBounds_toArray, List.set_cons_zero, List.set_cons_succ]
        refine takeH 15 46 (.slice (some ⟨B, 0, none⟩) 1048577 1048577) rfl rfl (by kernel_rfl) (by kernel_rfl) (by kernel_rfl) (fun _ _ _ h => h) (by rfl) (fun x hx => by go_simp) hS4 ?_
        simp only [List.setIfInBounds_toArray, List.set_cons_zero, List.set_cons_succ]
        refine takeH 16 47 (.string ⟨(List.replicate N1 0).toArray⟩) rfl rfl (by kernel_rfl) (by kernel_rfl) (by kernel_rfl) (fun _ _ _ h => h) (by rfl) (fun x hx => by have hc := (HBN4.out.below hx HBN4.out.1).conv (n := 1048577) (by rw [List.length_replicate]; exact HN1.out.symm) 1048577; go_simp) hS4 ?_
        simp only [List.setIfInBounds_toArray, List.set_cons_zero, List.set_cons_succ]
        refine takeH 18 49 (.slice (some ⟨ub, uo, none⟩) 3 cu) rfl rfl (by kernel_rfl) (by kernel_rfl) (by kernel_rfl) (fun _ _ _ h => h) (by rfl) (fun x hx => by go_simp) hS4 ?_
        simp only [List.setIfInBounds_toArray, List.set_cons_zero, List.set_cons_succ]
        refine takeH 19 50 (.pointer (some ⟨ub, uo, none⟩)) rfl rfl (by kernel_rfl) (by kernel_rfl) (by kernel_rfl) (fun _ _ _ h => h) (by rfl) (fun x hx => by go_simp) hS4 ?_
        simp only [List.setIfInBounds_toArray, List.set_cons_zero, List.set_cons_succ]
        refine takeH 20 51 (.string x0) rfl rfl (by kernel_rfl) (by kernel_rfl) (by kernel_rfl) (fun _ _ _ h => h) (by rfl) (fun x hx => by have hc := (hx.cell (p := ⟨ub, uo, none⟩) lub4).trans HV0.out; go_simp) hS4 ?_
        simp only [List.setIfInBounds_toArray, List.set_cons_zero, List.set_cons_succ]
        refine takeH 21 52 (.slice (some ⟨M, 0, none⟩) 4097 4097) rfl rfl (by kernel_rfl) (by kernel_rfl) (by kernel_rfl) (fun _ _ _ h => h) (by rfl) (fun x hx => by go_simp) hS4 ?_
        simp only [List.setIfInBounds_toArray, List.set_cons_zero, List.set_cons_succ]
        refine takeH 22 53 (.string ⟨(List.replicate N2 10).toArray⟩) rfl rfl (by kernel_rfl) (by kernel_rfl) (by kernel_rfl) (fun _ _ _ h => h) (by rfl) (fun x hx => by have hc := (HMN4.out.below hx HMN4.out.1).conv (n := 4097) (by rw [List.length_replicate]; exact HN2.out.symm) 4097; go_simp) hS4 ?_
        simp only [List.setIfInBounds_toArray, List.set_cons_zero, List.set_cons_succ]
        refine takeH 23 54 (.slice (some ⟨ub, uo, none⟩) 3 cu) rfl rfl (by kernel_rfl) (by kernel_rfl) (by kernel_rfl) (fun _ _ _ h => h) (by rfl) (fun x hx => by go_simp) hS4 ?_
        simp only [List.setIfInBounds_toArray, List.set_cons_zero, List.set_cons_succ]
        refine takeH 24 55 (.pointer (some ⟨ub, uo + 2, none⟩)) rfl rfl (by kernel_rfl) (by kernel_rfl) (by kernel_rfl) (fun _ _ _ h => h) (by rfl) (fun x hx => by go_simp) hS4 ?_
        simp only [List.setIfInBounds_toArray, List.set_cons_zero, List.set_cons_succ]
        refine takeH 25 56 (.string x2) rfl rfl (by kernel_rfl) (by kernel_rfl) (by kernel_rfl) (fun _ _ _ h => h) (by rfl) (fun x hx => by have hc := (hx.cell (p := ⟨ub, uo + 2, none⟩) lub4).trans HV2.out; go_simp) hS4 ?_
        simp only [List.setIfInBounds_toArray, List.set_cons_zero, List.set_cons_succ]
        refine takeH 27 58 (.slice (some ⟨M, 0, none⟩) 4097 4097) rfl rfl (by kernel_rfl) (by kernel_rfl) (by kernel_rfl) (fun _ _ _ h => h) (by rfl) (fun x hx => by go_simp) hS4 ?_
        simp only [List.setIfInBounds_toArray, List.set_cons_zero, List.set_cons_succ]
        refine takeH 28 59 (.string ⟨(List.replicate N2 10).toArray⟩) rfl rfl (by kernel_rfl) (by kernel_rfl) (by kernel_rfl) (fun _ _ _ h => h) (by rfl) (fun x hx => by have hc := (HMN4.out.below hx HMN4.out.1).conv (n := 4097) (by rw [List.length_replicate]; exact HN2.out.symm) 4097; go_simp) hS4 ?_
        simp only [List.setIfInBounds_toArray, List.set_cons_zero, List.set_cons_succ]
        refine takeH 29 60 (.slice (some ⟨ub, uo, none⟩) 3 cu) rfl rfl (by kernel_rfl) (by kernel_rfl) (by kernel_rfl) (fun _ _ _ h => h) (by rfl) (fun x hx => by go_simp) hS4 ?_
        simp only [List.setIfInBounds_toArray, List.set_cons_zero, List.set_cons_succ]
        refine takeH 30 61 (.pointer (some ⟨ub, uo + 1, none⟩)) rfl rfl (by kernel_rfl) (by kernel_rfl) (by kernel_rfl) (fun _ _ _ h => h) (by rfl) (fun x hx => by go_simp) hS4 ?_
        simp only [List.setIfInBounds_toArray, List.set_cons_zero, List.set_cons_succ]
        refine takeH 31 62 (.string x1) rfl rfl (by kernel_rfl) (by kernel_rfl) (by kernel_rfl) (fun _ _ _ h => h) (by rfl) (fun x hx => by have hc := (hx.cell (p := ⟨ub, uo + 1, none⟩) lub4).trans HV1.out; go_simp) hS4 ?_
        simp only [List.setIfInBounds_toArray, List.set_cons_zero, List.set_cons_succ]
        refine takeH 32 63 (.slice (some ⟨ub, uo, none⟩) 3 cu) rfl rfl (by kernel_rfl) (by kernel_rfl) (by kernel_rfl) (fun _ _ _ h => h) (by rfl) (fun x hx => by go_simp) hS4 ?_
        simp only [List.setIfInBounds_toArray, List.set_cons_zero, List.set_cons_succ]
        refine takeH 33 64 (.pointer (some ⟨ub, uo + 2, none⟩)) rfl rfl (by kernel_rfl) (by kernel_rfl) (by kernel_rfl) (fun _ _ _ h => h) (by rfl) (fun x hx => by go_simp) hS4 ?_
        simp only [List.setIfInBounds_toArray, List.set_cons_zero, List.set_cons_succ]
        refine takeH 34 65 (.string x2) rfl rfl (by kernel_rfl) (by kernel_rfl) (by kernel_rfl) (fun _ _ _ h => h) (by rfl) (fun x hx => by have hc := (hx.cell (p := ⟨ub, uo + 2, none⟩) lub4).trans HV2.out; go_simp) hS4 ?_
        simp only [List.setIfInBounds_toArray, List.set_cons_zero, List.set_cons_succ]
        refine takeH 37 68 (.int .i64 k) rfl rfl (by kernel_rfl) (by kernel_rfl) (by kernel_rfl) (fun _ _ _ h => h) (by rfl) (fun x hx => by go_simp) hS4 ?_
        simp only [List.setIfInBounds_toArray, List.set_cons_zero, List.set_cons_succ]
        refine any8 (by kernel_rfl) w4 (fun p1 p2 p3 p4 p5 pc => { tmps := #[v, .int .i64 k, undef, undef, .bool false, .slice (some ⟨B, 0, none⟩) 1048577 1048577, .slice (some ⟨M, 0, none⟩) 4097 4097, .int .i64 (I : Int), .slice (some ⟨ub, uo, none⟩) 3 cu, undef, undef, undef, undef, undef, undef, undef, undef, undef, .slice (some ⟨B, 0, none⟩) 1048577 1048577, .slice (some ⟨M, 0, none⟩) 4097 4097, .int .i64 (I : Int), .slice (some ⟨M, 0, none⟩) 4097 4097, .int .i64 4097, .bool false, u24, u25, u26, u27, u28, v, .slice (some ⟨ub, uo, none⟩) 3 cu, .slice (some ⟨B, 0, none⟩) 1048577 1048577, .string ⟨(List.replicate N1 0).toArray⟩, .slice (some ⟨ub, uo, none⟩) 3 cu, .pointer (some ⟨ub, uo + 1, none⟩), .string x1, .slice (some ⟨ub, uo, none⟩) 3 cu, .pointer (some ⟨ub, uo + 2, none⟩), .string x2, p1, .slice (some ⟨ub, uo, none⟩) 3 cu, .pointer (some ⟨ub, uo, none⟩), .string x0, .slice (some ⟨ub, uo, none⟩) 3 cu, .pointer (some ⟨ub, uo + 1, none⟩), .string x1, .slice (some ⟨B, 0, none⟩) 1048577 1048577, .string ⟨(List.replicate N1 0).toArray⟩, p2, .slice (some ⟨ub, uo, none⟩) 3 cu, .pointer (some ⟨ub, uo, none⟩), .string x0, .slice (some ⟨M, 0, none⟩) 4097 4097, .string ⟨(List.replicate N2 10).toArray⟩, .slice (some ⟨ub, uo, none⟩) 3 cu, .pointer (some ⟨ub, uo + 2, none⟩), .string x2, p3, .slice (some ⟨M, 0, none⟩) 4097 4097, .string ⟨(List.replicate N2 10).toArray⟩, .slice (some ⟨ub, uo, none⟩) 3 cu, .pointer (some ⟨ub, uo + 1, none⟩), .string x1, .slice (some ⟨ub, uo, none⟩) 3 cu, .pointer (some ⟨ub, uo + 2, none⟩), .string x2, p4, p5, .int .i64 k, pc, undef, undef, undef, undef, undef, undef, undef, undef, undef, undef, undef, undef, undef, undef, undef, undef, undef, undef, undef, undef, undef, undef, undef, undef, undef, undef, undef, undef, undef, undef, undef, undef, undef, undef, undef, undef, undef, undef, undef, undef, undef, undef, undef, undef, undef, undef, undef, undef, undef, undef, undef, undef, undef, undef, undef, undef, undef, undef, undef, undef, undef, undef, undef, undef, undef, undef, undef, undef, undef, undef, undef, undef, undef, undef, undef, undef, undef, undef, undef, undef, undef, undef], defers := [] })
          (Lst ⟨(List.replicate N1 0).toArray⟩ x1 x2) (Lst x0 x1 ⟨(List.replicate N1 0).toArray⟩) (Lst x0 ⟨(List.replicate N2 10).toArray⟩ x2) (Lst ⟨(List.replicate N2 10).toArray⟩ x1 x2) (Lsts (Lst ⟨(List.replicate N1 0).toArray⟩ x1 x2) (Lst x0 x1 ⟨(List.replicate N1 0).toArray⟩) (Lst x0 ⟨(List.replicate N2 10).toArray⟩ x2) (Lst ⟨(List.replicate N2 10).toArray⟩ x1 x2)) (fun uc => ∃ x : Int, uc = .int .i64 x ∧ 0 ≤ x ∧ x < 4)
          Lst.below Lst.below Lst.below Lst.below (Lsts.below Lst.below Lst.below Lst.below Lst.below)
          (fun p1 p2 p3 p4 p5 pc x K hb hK => by
          refine stepH rfl (by rfl) (fun K' hK' => ?_)
          go_simp
          refine hK'.out _ _ ?_
          exact hK.out (.slice (some ⟨x.heap.size, 0, none⟩) 3 3) _ ((Below.refl _ _).alloc (Nat.le_refl _) _) ⟨x.heap.size, rfl, Rd.lit (cs := [.string ⟨(List.replicate N1 0).toArray⟩, .string x1, .string x2]) rfl rfl (by decide)⟩)
          (fun p1 p2 p3 p4 p5 pc x K hb hK => by
          refine stepH rfl (by rfl) (fun K' hK' => ?_)
          go_simp
          refine hK'.out _ _ ?_
          exact hK.out (.slice (some ⟨x.heap.size, 0, none⟩) 3 3) _ ((Below.refl _ _).alloc (Nat.le_refl _) _) ⟨x.heap.size, rfl, Rd.lit (cs := [.string x0, .string x1, .string ⟨(List.replicate N1 0).toArray⟩]) rfl rfl (by decide)⟩)
          (fun p1 p2 p3 p4 p5 pc x K hb hK => by
          refine stepH rfl (by rfl) (fun K' hK' => ?_)
          go_simp
          refine hK'.out _ _ ?_
          exact hK.out (.slice (some ⟨x.heap.size, 0, none⟩) 3 3) _ ((Below.refl _ _).alloc (Nat.le_refl _) _) ⟨x.heap.size, rfl, Rd.lit (cs := [.string x0, .string ⟨(List.replicate N2 10).toArray⟩, .string x2]) rfl rfl (by decide)⟩)
          (fun p1 p2 p3 p4 p5 pc x K hb hK => by
          refine stepH rfl (by rfl) (fun K' hK' => ?_)
          go_simp
          refine hK'.out _ _ ?_
          exact hK.out (.slice (some ⟨x.heap.size, 0, none⟩) 3 3) _ ((Below.refl _ _).alloc (Nat.le_refl _) _) ⟨x.heap.size, rfl, Rd.lit (cs := [.string ⟨(List.replicate N2 10).toArray⟩, .string x1, .string x2]) rfl rfl (by decide)⟩)
          (fun p1 p2 p3 p4 p5 pc x K hb k1 k2 k3 k4 hK => by
          have h1 := hide k1
          have h2 := hide k2
          have h3 := hide k3
          have h4 := hide k4
          obtain ⟨q1, rfl, _⟩ := k1
          obtain ⟨q2, rfl, _⟩ := k2
          obtain ⟨q3, rfl, _⟩ := k3
          obtain ⟨q4, rfl, _⟩ := k4
          refine stepH rfl (by rfl) (fun K' hK' => ?_)
          go_simp
          refine hK'.out _ _ ?_
          have hbx : Below x.heap.size x (x.alloc (.cells #[.slice (some ⟨q1, 0, none⟩) 3 3, .slice (some ⟨q2, 0, none⟩) 3 3, .slice (some ⟨q3, 0, none⟩) 3 3, .slice (some ⟨q4, 0, none⟩) 3 3] 24)) := (Below.refl _ _).alloc (Nat.le_refl _) _
          exact hK.out (.slice (some ⟨x.heap.size, 0, none⟩) 4 4) _ hbx ⟨x.heap.size, _, _, _, _, rfl, by simp, (Blk.new x 24 _).cell 0, (Blk.new x 24 _).cell 1, (Blk.new x 24 _).cell 2, (Blk.new x 24 _).cell 3, Lst.below _ _ _ hbx h1.out, Lst.below _ _ _ hbx h2.out, Lst.below _ _ _ hbx h3.out, Lst.below _ _ _ hbx h4.out⟩)
          (fun p1 p2 p3 p4 p5 pc x K hb hK => by
          refine stepH rfl (by rfl) (fun K' hK' => ?_)
          go_simp
          refine (mod5 _ _ _ (by decide) (by decide)).mono ?_
          rintro e w' ⟨n, h0, h1, rfl, rfl⟩
          refine hK'.out _ _ ?_
          exact hK.out _ ⟨n, rfl, h0, h1⟩)
          (fun p1 p2 p3 p4 p5 pc x hb h5 hc => ?_)
          _ _ undef undef undef undef undef undef (by rfl) (by rfl)
        obtain ⟨g, v1, v2, v3, v4, rfl, hg, c0, c1, c2, c3, h1, h2, h3, h4⟩ := h5
        obtain ⟨n, rfl, n0, n1⟩ := hc
        have hn : n = 0 ∨ n = 1 ∨ n = 2 ∨ n = 3 := by omega
        have HG1 := hide h1
        have HG2 := hide h2
        have HG3 := hide h3
        have HG4 := hide h4
        have hbh := hide hb
        clear h1 h2 h3 h4 n0 n1
        dsimp only
        rcases hn with rfl | rfl | rfl | rfl
        · obtain ⟨q, rfl, hq⟩ := HG1.out
          have HQ := hide hq
          clear hq
          refine takeH 39 70 (.pointer (some ⟨g, 0, none⟩)) rfl rfl (by kernel_rfl) (by kernel_rfl) (by kernel_rfl) (fun _ _ _ h => h) (by rfl) (fun x hx => by go_simp) hb ?_
          simp only [List.setIfInBounds_toArray, List.set_cons_zero, List.set_cons_succ]
          refine onlyH 40 (by kernel_rfl) rfl (by rfl) (fun K' hK' => ?_)
          go_simp
          refine hK'.out _ _ hbh.out ?_
          try simp only [Act.put, List.setIfInBounds_toArray, List.set_cons_zero, List.set_cons_succ]
          refine takeH 41 9 (.slice (some ⟨q, 0, none⟩) 3 3) rfl rfl (by kernel_rfl) (by kernel_rfl) (by kernel_rfl) (fun _ _ _ h => h) (by rfl) (fun x hx => by go_simp) hb ?_
          simp only [List.setIfInBounds_toArray, List.set_cons_zero, List.set_cons_succ]
          refine wpAnyH_done (by kernel_rfl) ?_ _
          go_wp2_with fail
          go_meet
          case rel => exact ⟨q, ⟨(List.replicate N1 0).toArray⟩, x1, x2, rfl, HQ.out, .inl hbig, HS4.out ▸ HB34.out.trans (hbh.out.mono (Nat.le_of_eq HS4.out.symm))⟩
        · obtain ⟨q, rfl, hq⟩ := HG2.out
          have HQ := hide hq
          clear hq
          refine takeH 39 70 (.pointer (some ⟨g, 1, none⟩)) rfl rfl (by kernel_rfl) (by kernel_rfl) (by kernel_rfl) (fun _ _ _ h => h) (by rfl) (fun x hx => by go_simp) hb ?_
          simp only [List.setIfInBounds_toArray, List.set_cons_zero, List.set_cons_succ]
          refine onlyH 40 (by kernel_rfl) rfl (by rfl) (fun K' hK' => ?_)
          go_simp
          refine hK'.out _ _ hbh.out ?_
          try simp only [Act.put, List.setIfInBounds_toArray, List.set_cons_zero, List.set_cons_succ]
          refine takeH 41 9 (.slice (some ⟨q, 0, none⟩) 3 3) rfl rfl (by kernel_rfl) (by kernel_rfl) (by kernel_rfl) (fun _ _ _ h => h) (by rfl) (fun x hx => by go_simp) hb ?_
          simp only [List.setIfInBounds_toArray, List.set_cons_zero, List.set_cons_succ]
          refine wpAnyH_done (by kernel_rfl) ?_ _
          go_wp2_with fail
          go_meet
          case rel => exact ⟨q, x0, x1, ⟨(List.replicate N1 0).toArray⟩, rfl, HQ.out, .inr (.inr ⟨by omega, by omega, hbig⟩), HS4.out ▸ HB34.out.trans (hbh.out.mono (Nat.le_of_eq HS4.out.symm))⟩
        · obtain ⟨q, rfl, hq⟩ := HG3.out
          have HQ := hide hq
          clear hq
          refine takeH 39 70 (.pointer (some ⟨g, 2, none⟩)) rfl rfl (by kernel_rfl) (by kernel_rfl) (by kernel_rfl) (fun _ _ _ h => h) (by rfl) (fun x hx => by go_simp) hb ?_
          simp only [List.setIfInBounds_toArray, List.set_cons_zero, List.set_cons_succ]
          refine onlyH 40 (by kernel_rfl) rfl (by rfl) (fun K' hK' => ?_)
          go_simp
          refine hK'.out _ _ hbh.out ?_
          try simp only [Act.put, List.setIfInBounds_toArray, List.set_cons_zero, List.set_cons_succ]
          refine takeH 41 9 (.slice (some ⟨q, 0, none⟩) 3 3) rfl rfl (by kernel_rfl) (by kernel_rfl) (by kernel_rfl) (fun _ _ _ h => h) (by rfl) (fun x hx => by go_simp) hb ?_
          simp only [List.setIfInBounds_toArray, List.set_cons_zero, List.set_cons_succ]
          refine wpAnyH_done (by kernel_rfl) ?_ _
          go_wp2_with fail
          go_meet
          case rel => exact ⟨q, x0, ⟨(List.replicate N2 10).toArray⟩, x2, rfl, HQ.out, .inr (.inl ⟨by omega, hmany⟩), HS4.out ▸ HB34.out.trans (hbh.out.mono (Nat.le_of_eq HS4.out.symm))⟩
        · obtain ⟨q, rfl, hq⟩ := HG4.out
          have HQ := hide hq
          clear hq
          refine takeH 39 70 (.pointer (some ⟨g, 3, none⟩)) rfl rfl (by kernel_rfl) (by kernel_rfl) (by kernel_rfl) (fun _ _ _ h => h) (by rfl) (fun x hx => by go_simp) hb ?_
          simp only [List.setIfInBounds_toArray, List.set_cons_zero, List.set_cons_succ]
          refine onlyH 40 (by kernel_rfl) rfl (by rfl) (fun K' hK' => ?_)
          go_simp
          refine hK'.out _ _ hbh.out ?_
          try simp only [Act.put, List.setIfInBounds_toArray, List.set_cons_zero, List.set_cons_succ]
          refine takeH 41 9 (.slice (some ⟨q, 0, none⟩) 3 3) rfl rfl (by kernel_rfl) (by kernel_rfl) (by kernel_rfl) (fun _ _ _ h => h) (by rfl) (fun x hx => by go_simp) hb ?_
          simp only [List.setIfInBounds_toArray, List.set_cons_zero, List.set_cons_succ]
          refine wpAnyH_done (by kernel_rfl) ?_ _
          go_wp2_with fail
          go_meet
          case rel => exact ⟨q, ⟨(List.replicate N2 10).toArray⟩, x1, x2, rfl, HQ.out, .inl hmany, HS4.out ▸ HB34.out.trans (hbh.out.mono (Nat.le_of_eq HS4.out.symm))⟩

      case rest =>
        obtain ⟨g, s0, s1, s2, rfl, hrd, hbad, hbel⟩ := hcut
        obtain ⟨wA, rfl⟩ : ∃ wA : World, wA = wc := ⟨_, rfl⟩
        obtain ⟨gb, go, hge, lg, hgc⟩ := hrd.at (by omega)
        injection hge with hge
        injection hge with hge1 hge2 _
        subst hge1 hge2
        have c0 : wA.cell? ⟨g, 0, none⟩ = some (.string s0) := hgc 0 _ rfl
        have c1 : wA.cell? ⟨g, 1, none⟩ = some (.string s1) := hgc 1 _ rfl
        have c2 : wA.cell? ⟨g, 2, none⟩ = some (.string s2) := hgc 2 _ rfl
        have HP := hide (show Rd wA (.slice (some ⟨g, 1, none⟩) 2 2) 1 2 [.string s1, .string s2] from ⟨_, 2, rfl, by omega, by decide, rfl, fun _ => ⟨g, 1, rfl, lg, fun j u hj => by
          rcases j with _ | _ | j
          · injection hj with hj; subst hj; exact c1
          · injection hj with hj; subst hj; exact c2
          · simp at hj⟩⟩)
        have HC0 := hide c0
        have HBAD := hide hbad
        have HB4 := hide (HB3.out.trans (hbel.mono (HBeq.out ▸ HB3.out.size)))
        have HM4 := hide (HM3.out.self hbel)
        have HV0 := hide ((hbel.cell (p := ⟨ub, uo, none⟩) lub).trans HU0.out)
        have lubA := Nat.lt_of_lt_of_le lub hbel.size
        clear hrd hgc c0 c1 c2 hbad hbel HU0 HU1 HU2 HRU HB3 HM3 HR3 HMN HBN HN1 HN2 HMeq HBM HR HM H4
        have H8 := hide (fun x hx => make8_bad s0 s1 s2 (some ⟨g, 1, none⟩) 2 x (HP.out.below (B := wA.heap.size) hx (Nat.le_refl _)) (HM4.out.self hx) HBAD.out)
        have SS := hide (fun X (h : Below wA.heap.size wA X) => (⟨h, (h.cell (p := ⟨g, 0, none⟩) lg).trans HC0.out⟩ : Below wA.heap.size wA X ∧ X.cell? ⟨g, 0, none⟩ = some (.string s0)))
        have h6 : ∀ x, Below wA.heap.size wA x → Calls Tryz.prog 6 #[.string ⟨#[120]⟩, .string s0, .slice (some ⟨g, 1, none⟩) 2 2] x fun e x' => e = .returned (.tuple #[.agg #[.string ⟨#[]⟩, .bool false, .int .i64 0, .slice none 0 0], .int .i64 1]) ∧ Below x.heap.size x x' :=
          fun x hx => full6_bad1 s0 _ _ _ x (fun y hy => H8.out y (hx.trans (hy.mono hx.size)))
        have h7 : ∀ x, Below wA.heap.size wA x → Calls Tryz.prog 7 #[.string ⟨#[120]⟩, .string s0, .slice (some ⟨g, 1, none⟩) 2 2, .int .i64 3, .bool true] x fun e x' => e = .returned (.tuple #[.agg #[.string ⟨#[]⟩, .bool false, .int .i64 0, .slice none 0 0], .int .i64 1]) ∧ Below x.heap.size x x' :=
          fun x hx => make7_bad1 s0 _ _ _ _ _ x (fun y hy => H8.out y (hx.trans (hy.mono hx.size)))
        have H6 := hide h6
        have H7 := hide h7
        clear h6 h7
        have lgwA := lg
        have HCwA := HC0
        have HBwA := hide (Below.refl wA.heap.size wA)
        go_upto_region 9 with fail
        go_cut [10, 11] from 18 (fun pv ev wd => ∃ h, pv = .pointer (some ⟨h, 0, none⟩) ∧ ev = .int .i64 1 ∧ Blk wd h 30 #[.string ⟨#[]⟩, .bool false, .int .i64 0, .slice none 0 0] ∧ Below wA.heap.size wA wd)
        case first =>
          go_region_held3 (fun X => Below wA.heap.size wA X ∧ X.cell? ⟨g, 0, none⟩ = some (.string s0))
            (first | exact SS.out _ (Below.refl _ _).drew | exact SS.out _ hbk | exact SS.out _ (hbk.alloc hbk.size _) | exact SS.out _ (set4 hbk (Nat.le_refl _)) | exact SS.out _ ((Below.refl _ _).alloc (Nat.le_refl _) _).drew | fail)
            (first | (go_at_call 6; refine (H6.out _ ‹Below wA.heap.size wA _ ∧ _›.1).mono ?_; rintro e w5 ⟨rfl, hb5⟩; have HO := (Blk.new wA.drew 30 #[.string ⟨#[]⟩, .bool false, .int .i64 0, .slice none 0 0]).below hb5 (by simp); have lO : wA.heap.size < w5.heap.size := HO.lt; have o0 : w5.cell? ⟨wA.heap.size, 0, none⟩ = some (.string ⟨#[]⟩) := HO.cell 0; have f0 : w5.frozen? ⟨wA.heap.size, 0, none⟩ = false := HO.frozen 0; have o1 : w5.cell? ⟨wA.heap.size, 1, none⟩ = some (.bool false) := HO.cell 1; have f1 : w5.frozen? ⟨wA.heap.size, 1, none⟩ = false := HO.frozen 1; have o2 : w5.cell? ⟨wA.heap.size, 2, none⟩ = some (.int .i64 0) := HO.cell 2; have f2 : w5.frozen? ⟨wA.heap.size, 2, none⟩ = false := HO.frozen 2; have o3 : w5.cell? ⟨wA.heap.size, 3, none⟩ = some (.slice none 0 0) := HO.cell 3; have f3 : w5.frozen? ⟨wA.heap.size, 3, none⟩ = false := HO.frozen 3; have hbk := ‹Below wA.heap.size wA _ ∧ _›.1.trans (hb5.mono ‹Below wA.heap.size wA _ ∧ _›.1.size); have HB5 := hide hb5; have HO5 := hide HO; clear hb5 HO) | (go_at_call 6; refine (H6.out _ ‹Below wA.heap.size wA _ ∧ _›.1).mono ?_; rintro e w5 ⟨rfl, hb5⟩; have hbk := ‹Below wA.heap.size wA _ ∧ _›.1.trans (hb5.mono ‹Below wA.heap.size wA _ ∧ _›.1.size); have HB5 := hide hb5; clear hb5))
          all_goals
            go_wp2_with fail
            go_meet
          · exact ⟨w5.heap.size, rfl, rfl, Blk.new w5 30 _, hbk.alloc hbk.size _⟩
          · exact ⟨wA.heap.size, rfl, rfl, ((((HO5.out.set_ 0 _).set_ 1 _).set_ 2 _).set_ 3 _), set4 hbk (Nat.le_refl _)⟩
        case rest =>
        obtain ⟨ba, rfl, rfl, hblk, hbel⟩ := hcut
        obtain ⟨wB, rfl⟩ : ∃ wB : World, wB = wc := ⟨_, rfl⟩
        have HKba := hide hblk
        have lgwB : g < wB.heap.size := Nat.lt_of_lt_of_le lgwA hbel.size
        have HCwB := hide ((hbel.cell (p := ⟨g, 0, none⟩) lgwA).trans HCwA.out)
        have HBwB := hide (HBwA.out.trans (hbel.mono HBwA.out.size))
        have H7wB := hide (fun x (hx : Below wB.heap.size wB x) => H7.out x (HBwB.out.trans (hx.mono HBwB.out.size)))
        clear SS
        have SS := hide (fun X (h : Below wB.heap.size wB X) => (⟨h, (h.cell (p := ⟨g, 0, none⟩) lgwB).trans HCwB.out⟩ : Below wB.heap.size wB X ∧ X.cell? ⟨g, 0, none⟩ = some (.string s0)))
        clear hblk hbel lgwA HCwA
        go_upto_region 10 with fail
        go_cut [12, 13] from 18 (fun pv ev wd => ∃ h, pv = .pointer (some ⟨h, 0, none⟩) ∧ ev = .int .i64 1 ∧ Blk wd h 30 #[.string ⟨#[]⟩, .bool false, .int .i64 0, .slice none 0 0] ∧ Below wB.heap.size wB wd)
        case first =>
          go_region_held3 (fun X => Below wB.heap.size wB X ∧ X.cell? ⟨g, 0, none⟩ = some (.string s0))
            (first | exact SS.out _ (Below.refl _ _).drew | exact SS.out _ hbk | exact SS.out _ (hbk.alloc hbk.size _) | exact SS.out _ (set4 hbk (Nat.le_refl _)) | exact SS.out _ ((Below.refl _ _).alloc (Nat.le_refl _) _).drew | fail)
            (first | (go_at_call 7; refine (H7wB.out _ ‹Below wB.heap.size wB _ ∧ _›.1).mono ?_; rintro e w5 ⟨rfl, hb5⟩; have HO := (Blk.new wB.drew 30 #[.string ⟨#[]⟩, .bool false, .int .i64 0, .slice none 0 0]).below hb5 (by simp); have lO : wB.heap.size < w5.heap.size := HO.lt; have o0 : w5.cell? ⟨wB.heap.size, 0, none⟩ = some (.string ⟨#[]⟩) := HO.cell 0; have f0 : w5.frozen? ⟨wB.heap.size, 0, none⟩ = false := HO.frozen 0; have o1 : w5.cell? ⟨wB.heap.size, 1, none⟩ = some (.bool false) := HO.cell 1; have f1 : w5.frozen? ⟨wB.heap.size, 1, none⟩ = false := HO.frozen 1; have o2 : w5.cell? ⟨wB.heap.size, 2, none⟩ = some (.int .i64 0) := HO.cell 2; have f2 : w5.frozen? ⟨wB.heap.size, 2, none⟩ = false := HO.frozen 2; have o3 : w5.cell? ⟨wB.heap.size, 3, none⟩ = some (.slice none 0 0) := HO.cell 3; have f3 : w5.frozen? ⟨wB.heap.size, 3, none⟩ = false := HO.frozen 3; have hbk := ‹Below wB.heap.size wB _ ∧ _›.1.trans (hb5.mono ‹Below wB.heap.size wB _ ∧ _›.1.size); have HB5 := hide hb5; have HO5 := hide HO; clear hb5 HO) | (go_at_call 7; refine (H7wB.out _ ‹Below wB.heap.size wB _ ∧ _›.1).mono ?_; rintro e w5 ⟨rfl, hb5⟩; have hbk := ‹Below wB.heap.size wB _ ∧ _›.1.trans (hb5.mono ‹Below wB.heap.size wB _ ∧ _›.1.size); have HB5 := hide hb5; clear hb5))
          all_goals
            go_wp2_with fail
            go_meet
          · exact ⟨w5.heap.size, rfl, rfl, Blk.new w5 30 _, hbk.alloc hbk.size _⟩
          · exact ⟨wB.heap.size, rfl, rfl, ((((HO5.out.set_ 0 _).set_ 1 _).set_ 2 _).set_ 3 _), set4 hbk (Nat.le_refl _)⟩
        case rest =>
        obtain ⟨bb, rfl, rfl, hblk, hbel⟩ := hcut
        obtain ⟨wC, rfl⟩ : ∃ wC : World, wC = wc := ⟨_, rfl⟩
        have HKbb := hide hblk
        have lgwC : g < wC.heap.size := Nat.lt_of_lt_of_le lgwB hbel.size
        have HCwC := hide ((hbel.cell (p := ⟨g, 0, none⟩) lgwB).trans HCwB.out)
        have HBwC := hide (HBwB.out.trans (hbel.mono HBwB.out.size))
        have HKba := hide (HKba.out.below hbel HKba.out.lt)
        have H8wC := hide (fun x (hx : Below wC.heap.size wC x) => H8.out x (HBwC.out.trans (hx.mono HBwC.out.size)))
        clear SS
        have SS := hide (fun X (h : Below wC.heap.size wC X) => (⟨h, (h.cell (p := ⟨g, 0, none⟩) lgwC).trans HCwC.out⟩ : Below wC.heap.size wC X ∧ X.cell? ⟨g, 0, none⟩ = some (.string s0)))
        clear hblk hbel lgwB HCwB
        go_upto_region 11 with fail
        go_cut [14, 15] from 18 (fun pv ev wd => ∃ h, pv = .pointer (some ⟨h, 0, none⟩) ∧ ev = .int .i64 1 ∧ Blk wd h 37 #[.int .i64 0, .slice none 0 0] ∧ Below wC.heap.size wC wd)
        case first =>
          go_region_held3 (fun X => Below wC.heap.size wC X ∧ X.cell? ⟨g, 0, none⟩ = some (.string s0))
            (first | exact SS.out _ (Below.refl _ _).drew | exact SS.out _ hbk | exact SS.out _ (hbk.alloc hbk.size _) | exact SS.out _ (set2 hbk (Nat.le_refl _)) | exact SS.out _ ((Below.refl _ _).alloc (Nat.le_refl _) _).drew | fail)
            (first | (go_at_call 8; refine (H8wC.out _ ‹Below wC.heap.size wC _ ∧ _›.1).mono ?_; rintro e w5 ⟨rfl, hb5⟩; have HO := (Blk.new wC.drew 37 #[.int .i64 0, .slice none 0 0]).below hb5 (by simp); have lO : wC.heap.size < w5.heap.size := HO.lt; have o0 : w5.cell? ⟨wC.heap.size, 0, none⟩ = some (.int .i64 0) := HO.cell 0; have f0 : w5.frozen? ⟨wC.heap.size, 0, none⟩ = false := HO.frozen 0; have o1 : w5.cell? ⟨wC.heap.size, 1, none⟩ = some (.slice none 0 0) := HO.cell 1; have f1 : w5.frozen? ⟨wC.heap.size, 1, none⟩ = false := HO.frozen 1; have hbk := ‹Below wC.heap.size wC _ ∧ _›.1.trans (hb5.mono ‹Below wC.heap.size wC _ ∧ _›.1.size); have HB5 := hide hb5; have HO5 := hide HO; clear hb5 HO) | (go_at_call 8; refine (H8wC.out _ ‹Below wC.heap.size wC _ ∧ _›.1).mono ?_; rintro e w5 ⟨rfl, hb5⟩; have hbk := ‹Below wC.heap.size wC _ ∧ _›.1.trans (hb5.mono ‹Below wC.heap.size wC _ ∧ _›.1.size); have HB5 := hide hb5; clear hb5))
          all_goals
            go_wp2_with fail
            go_meet
          · exact ⟨w5.heap.size, rfl, rfl, Blk.new w5 37 _, hbk.alloc hbk.size _⟩
          · exact ⟨wC.heap.size, rfl, rfl, ((HO5.out.set_ 0 _).set_ 1 _), set2 hbk (Nat.le_refl _)⟩
        case rest =>
        obtain ⟨bc, rfl, rfl, hblk, hbel⟩ := hcut
        obtain ⟨wD, rfl⟩ : ∃ wD : World, wD = wc := ⟨_, rfl⟩
        have HKbc := hide hblk
        have lgwD : g < wD.heap.size := Nat.lt_of_lt_of_le lgwC hbel.size
        have HCwD := hide ((hbel.cell (p := ⟨g, 0, none⟩) lgwC).trans HCwC.out)
        have HBwD := hide (HBwC.out.trans (hbel.mono HBwC.out.size))
        have HKba := hide (HKba.out.below hbel HKba.out.lt)
        have HKbb := hide (HKbb.out.below hbel HKbb.out.lt)
        clear hblk hbel lgwC HCwC
        have v0 : wD.cell? ⟨ub, uo, none⟩ = some (.string x0) := (HBwD.out.cell (p := ⟨ub, uo, none⟩) lubA).trans HV0.out
        have lubD := Nat.lt_of_lt_of_le lubA HBwD.out.size
        have HMD := hide (HM4.out.self HBwD.out)
        have HBD := hide (HB4.out.trans (HBwD.out.mono (Nat.le_trans (HBeq.out ▸ HB4.out.size) (Nat.le_refl _))))
        clear HBwD HB4 HM4 HBAD HV0 lubA HP H6 H7 H8 HBwC HBwB HBwA H7wB H8wC SS
        go_wp2_with fail
        refine (full6_bad2 x0 none 0 0 _ (fun x hx => make8_none x0 x)).mono ?_
        rintro e w5 ⟨rfl, hb5⟩
        have KA := (HKba.out.below hb5 HKba.out.lt).alloc (.cells #[.string ⟨#[]⟩, .bool false, .int .i64 0, .slice none 0 0] 30)
        have KB := (HKbb.out.below hb5 HKbb.out.lt).alloc (.cells #[.string ⟨#[]⟩, .bool false, .int .i64 0, .slice none 0 0] 30)
        have KC := (HKbc.out.below hb5 HKbc.out.lt).alloc (.cells #[.string ⟨#[]⟩, .bool false, .int .i64 0, .slice none 0 0] 30)
        have KD := Blk.new w5 30 #[.string ⟨#[]⟩, .bool false, .int .i64 0, .slice none 0 0]
        have HME := hide ((HMD.out.self hb5).alloc (.cells #[.string ⟨#[]⟩, .bool false, .int .i64 0, .slice none 0 0] 30))
        have HBE := hide ((HBD.out.trans (hb5.mono (HBeq.out ▸ HBD.out.size))).alloc (Nat.le_trans (HBeq.out ▸ HBD.out.size) hb5.size) (.cells #[.string ⟨#[]⟩, .bool false, .int .i64 0, .slice none 0 0] 30))
        go_upto_region 13 with fail
        obtain ⟨wE, hwE⟩ : ∃ wE : World, wE = w5.alloc (.cells #[.string ⟨#[]⟩, .bool false, .int .i64 0, .slice none 0 0] 30) := ⟨_, rfl⟩
        rw [← hwE] at KA KB KC KD HME HBE ⊢
        obtain ⟨bd, hbd⟩ : ∃ bd, bd = w5.heap.size := ⟨_, rfl⟩
        rw [← hbd] at KD ⊢
        clear hwE hbd hb5 HKba HKbb HKbc HMD HBD v0 lubD
        have a3 : wE.cell? ⟨ba, 3, none⟩ = some (.slice none 0 0) := KA.cell 3
        have a2 : wE.cell? ⟨ba, 2, none⟩ = some (.int .i64 0) := KA.cell 2
        have b3 : wE.cell? ⟨bb, 3, none⟩ = some (.slice none 0 0) := KB.cell 3
        have c1 : wE.cell? ⟨bc, 1, none⟩ = some (.slice none 0 0) := KC.cell 1
        have d3 : wE.cell? ⟨bd, 3, none⟩ = some (.slice none 0 0) := KD.cell 3
        clear KA KB KC KD
        go_wp2_with fail
        refine (arise9 wE HME.out).mono ?_
        rintro e w6 ⟨rfl, hb6⟩
        go_wp2_with fail
        go_ret
        exact ⟨rfl, HBeq.out ▸ HBE.out.trans (hb6.mono (HBeq.out ▸ HBE.out.size))⟩

theorem top3 (v : Value) (zs : List Int) (k : Int) (w : World) (hr : Rd w v 1 zs.length (inVals zs)) (hz : zs.length ≤ 9223372036854775807) (hm : Mx w) :
    Calls Tryz.prog 3 #[v, .int .i64 k] w fun e w' => e = .returned (.bool true) ∧ Below w.heap.size w w' :=
  top3_of v zs k w hr hz hm (hide fun w h => blobs4 v zs w h hz)
end Go.Proofs.YtbjbcfiieacamaaGreatDoor
