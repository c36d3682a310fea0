import Derived.Test.YtbjbcfiieacamaaGreatDoorTG
namespace Go.Proofs.YtbjbcfiieacamaaGreatDoor
open Go.RowKit
set_option linter.unusedVariables false

set_option maxRecDepth 100000 in
set_option maxHeartbeats 1600000 in
theorem make8_bad0 (r p q : ByteArray) (A : Option Addr) (c : Nat) (w : World) (hr : Rd w (.slice A 2 c) 1 2 [.string p, .string q]) (hm : Mx w)  (hbad : ∀ w, Calls Tryz.prog 35 #[.string r] w fun e w' => e = .returned (.int .i64 1) ∧ w = w') :
    Calls Tryz.prog 8 #[.string r, .slice A 2 c] w fun e w' => e = .returned (.tuple #[.agg #[.int .i64 0, .slice none 0 0], .int .i64 1]) ∧ Below w.heap.size w w' := by
  obtain ⟨b, off, rfl, hb, hc⟩ := hr.at (by omega)
  have e0 : w.cell? ⟨b, off, none⟩ = some (.string p) := hc 0 _ rfl
  have e1 : w.cell? ⟨b, off + 1, none⟩ = some (.string q) := hc 1 _ rfl
  have HM := hide hm
  have hcp : ¬ 281474976710656 < Builtin.nextslicecap 3 1 * Tryz.t9.bytes := of_decide_eq_false (by kernel_rfl)
  clear hc hr hm
  go_enter Tryz.func8, Tryz.ntmps8
  go_wp2_with fail
  clear hcp e0 e1
  obtain ⟨cp, hcd⟩ : ∃ cp, cp = (Question.appendCap 3 1 9).cut (w.tape w.drawn (Question.appendCap 3 1 9)) := ⟨_, rfl⟩
  have hp1 : 3 ≤ cp := by rw [hcd]; exact grownCap_ge w 3 1 9
  have hp2 : cp ≤ maxLen := by rw [hcd]; exact grownCap_le_maxLen w 3 1 9 (by decide)
  rw [← hcd]
  obtain ⟨w0, hw0⟩ : ∃ w0, w0 = ((w.alloc (.cells #[.int .i64 0, .slice none 0 0] 37)).alloc (.cells #[.string r] 9)).alloc (.cells (#[.string r] ++ (#[.string p, .string q] ++ Builtin.zeroCells #[.string ⟨#[]⟩] (cp - 3))) 9) := ⟨_, rfl⟩
  have HB0 := hide (show Below w.heap.size w w0 by rw [hw0]; exact (((Below.refl _ _).alloc (Nat.le_refl _) _).alloc (by simp) _).alloc (by simp; omega) _)
  have HT0 := hide (show Blk w0 w.heap.size 37 #[.int .i64 0, .slice none 0 0] by rw [hw0]; exact ((Blk.new w 37 _).alloc _).alloc _)
  have HS0 := hide (show Rd w0 (.slice (some ⟨w.heap.size + 1 + 1, 0, none⟩) 3 cp) 1 3 [.string r, .string p, .string q] by
    rw [hw0]
    refine ⟨_, cp, rfl, hp1, hp2, rfl, fun _ => ⟨_, 0, rfl, by simp, fun j u hu => ?_⟩⟩
    have hB := Blk.new ((w.alloc (.cells #[.int .i64 0, .slice none 0 0] 37)).alloc (.cells #[.string r] 9)) 9 (#[.string r] ++ (#[.string p, .string q] ++ Builtin.zeroCells #[.string ⟨#[]⟩] (cp - 3)))
    rw [show ((w.alloc (.cells #[.int .i64 0, .slice none 0 0] 37)).alloc (.cells #[.string r] 9)).heap.size = w.heap.size + 1 + 1 by simp] at hB
    rw [Nat.zero_add, hB.cell, ← Array.append_assoc, Array.getElem?_append_left (by simpa using (List.getElem?_eq_some_iff.1 hu).1)]
    simpa using hu)
  obtain ⟨R, hR⟩ : ∃ R, R = w.heap.size := ⟨_, rfl⟩
  obtain ⟨S, hS⟩ : ∃ S, S = w.heap.size + 1 + 1 := ⟨_, rfl⟩
  have s0 : w0.heap.size = S + 1 := by rw [hw0, hS]; simp
  rw [← hw0]
  rw [← hS] at HS0 ⊢
  rw [← hR] at HT0 ⊢
  have hRS : R < S := by omega
  have hwR : w.heap.size ≤ R := by omega
  clear hw0 hcd hR hS
  replace HM := hide (HM.out.self HB0.out)
  have lS := s0
  have HBAD := hide hbad
  clear hbad
  refine wp_loop_rounds 3 ?_
  rw [rounds_succ]
  have y0 : w0.cell? ⟨S, 0, none⟩ = some (.string r) := by
    obtain ⟨b_, o_, e_, _, hc_⟩ := HS0.out.at (by omega)
    injection e_ with e_
    injection e_ with e_ e2_ _
    subst e_
    subst e2_
    exact hc_ 0 _ rfl
  go_wp2_with fail
  refine (split16_bad r _ (HBAD.out _)).mono ?_
  rintro e w' ⟨rfl, rfl⟩
  have t0 : w0.cell? ⟨R, 0, none⟩ = some (.int .i64 0) := HT0.out.cell 0
  have t1 : w0.cell? ⟨R, 1, none⟩ = some (.slice none 0 0) := HT0.out.cell 1
  have f0 := HT0.out.frozen 0
  have f1 := HT0.out.frozen 1
  have lT := HT0.out.lt
  have HTf := (HT0.out.set_ 0 (.int .i64 0)).set_ 1 (.slice none 0 0)
  have q0 : ((w0.setCell ⟨R, 0, none⟩ (.int .i64 0)).setCell ⟨R, 1, none⟩ (.slice none 0 0)).cell? ⟨R, 0, none⟩ = some (.int .i64 0) := HTf.cell 0
  have q1 : ((w0.setCell ⟨R, 0, none⟩ (.int .i64 0)).setCell ⟨R, 1, none⟩ (.slice none 0 0)).cell? ⟨R, 1, none⟩ = some (.slice none 0 0) := HTf.cell 1
  clear HTf
  go_wp2_with fail
  refine bodyPost_ret (v := .tuple #[.agg #[.int .i64 0, .slice none 0 0], .int .i64 1]) (by simp [results, Tryz.results8, go_sem, q0, q1]) rfl ⟨rfl, ?_⟩
  exact ((HB0.out.setCell (p := ⟨R, 0, none⟩) hwR _).setCell (p := ⟨R, 1, none⟩) hwR _).drew

set_option maxRecDepth 100000 in
set_option maxHeartbeats 1600000 in
theorem make8_bad1 (r p q : ByteArray) (A : Option Addr) (c : Nat) (w : World) (hr : Rd w (.slice A 2 c) 1 2 [.string p, .string q]) (hm : Mx w) (kr : r.size ≤ 3000) (hbad : ∀ w, Calls Tryz.prog 35 #[.string p] w fun e w' => e = .returned (.int .i64 1) ∧ w = w') :
    Calls Tryz.prog 8 #[.string r, .slice A 2 c] w fun e w' => e = .returned (.tuple #[.agg #[.int .i64 0, .slice none 0 0], .int .i64 1]) ∧ Below w.heap.size w w' := by
  obtain ⟨b, off, rfl, hb, hc⟩ := hr.at (by omega)
  have e0 : w.cell? ⟨b, off, none⟩ = some (.string p) := hc 0 _ rfl
  have e1 : w.cell? ⟨b, off + 1, none⟩ = some (.string q) := hc 1 _ rfl
  have HM := hide hm
  have hcp : ¬ 281474976710656 < Builtin.nextslicecap 3 1 * Tryz.t9.bytes := of_decide_eq_false (by kernel_rfl)
  clear hc hr hm
  go_enter Tryz.func8, Tryz.ntmps8
  go_wp2_with fail
  clear hcp e0 e1
  obtain ⟨cp, hcd⟩ : ∃ cp, cp = (Question.appendCap 3 1 9).cut (w.tape w.drawn (Question.appendCap 3 1 9)) := ⟨_, rfl⟩
  have hp1 : 3 ≤ cp := by rw [hcd]; exact grownCap_ge w 3 1 9
  have hp2 : cp ≤ maxLen := by rw [hcd]; exact grownCap_le_maxLen w 3 1 9 (by decide)
  rw [← hcd]
  obtain ⟨w0, hw0⟩ : ∃ w0, w0 = ((w.alloc (.cells #[.int .i64 0, .slice none 0 0] 37)).alloc (.cells #[.string r] 9)).alloc (.cells (#[.string r] ++ (#[.string p, .string q] ++ Builtin.zeroCells #[.string ⟨#[]⟩] (cp - 3))) 9) := ⟨_, rfl⟩
  have HB0 := hide (show Below w.heap.size w w0 by rw [hw0]; exact (((Below.refl _ _).alloc (Nat.le_refl _) _).alloc (by simp) _).alloc (by simp; omega) _)
  have HT0 := hide (show Blk w0 w.heap.size 37 #[.int .i64 0, .slice none 0 0] by rw [hw0]; exact ((Blk.new w 37 _).alloc _).alloc _)
  have HS0 := hide (show Rd w0 (.slice (some ⟨w.heap.size + 1 + 1, 0, none⟩) 3 cp) 1 3 [.string r, .string p, .string q] by
    rw [hw0]
    refine ⟨_, cp, rfl, hp1, hp2, rfl, fun _ => ⟨_, 0, rfl, by simp, fun j u hu => ?_⟩⟩
    have hB := Blk.new ((w.alloc (.cells #[.int .i64 0, .slice none 0 0] 37)).alloc (.cells #[.string r] 9)) 9 (#[.string r] ++ (#[.string p, .string q] ++ Builtin.zeroCells #[.string ⟨#[]⟩] (cp - 3)))
    rw [show ((w.alloc (.cells #[.int .i64 0, .slice none 0 0] 37)).alloc (.cells #[.string r] 9)).heap.size = w.heap.size + 1 + 1 by simp] at hB
    rw [Nat.zero_add, hB.cell, ← Array.append_assoc, Array.getElem?_append_left (by simpa using (List.getElem?_eq_some_iff.1 hu).1)]
    simpa using hu)
  obtain ⟨R, hR⟩ : ∃ R, R = w.heap.size := ⟨_, rfl⟩
  obtain ⟨S, hS⟩ : ∃ S, S = w.heap.size + 1 + 1 := ⟨_, rfl⟩
  have s0 : w0.heap.size = S + 1 := by rw [hw0, hS]; simp
  rw [← hw0]
  rw [← hS] at HS0 ⊢
  rw [← hR] at HT0 ⊢
  have hRS : R < S := by omega
  have hwR : w.heap.size ≤ R := by omega
  clear hw0 hcd hR hS
  replace HM := hide (HM.out.self HB0.out)
  have lS := s0
  have HBAD := hide hbad
  clear hbad
  refine wp_loop_rounds 3 ?_
  rw [rounds_succ]
  have y0 : w0.cell? ⟨S, 0, none⟩ = some (.string r) := by
    obtain ⟨b_, o_, e_, _, hc_⟩ := HS0.out.at (by omega)
    injection e_ with e_
    injection e_ with e_ e2_ _
    subst e_
    subst e2_
    exact hc_ 0 _ rfl
  go_wp2_with fail
  refine (split16_ok r w0.drew kr HM.out).mono ?_
  rintro e v1 ⟨A0, c0, rfl, hr0, hb0⟩
  have HR0 := hide hr0
  have HV0 := hide (show Below w0.heap.size w0 v1 from ⟨hb0.os, hb0.tape, hb0.output, hb0.size, hb0.block⟩)
  have z0 := HV0.out.size
  clear hr0 hb0 y0
  have HSv := hide (HS0.out.below HV0.out (Nat.le_refl _))
  have HTv := hide (HT0.out.below HV0.out HT0.out.lt)
  have HMv := hide (HM.out.self HV0.out)
  go_wp2_with (at_builtin; go_must (refine wp_app0 rfl (.tmp 44) (.tmp 46) 26 24 1 24 _ rfl Tryz.underlying26 info24 rfl (by omega) (by omega) v1 rfl _ _ rfl rfl rfl rfl ?_); intro gF1 cF1 w1 hF1a hF1b hF1s hF1r hF1o hF1; have HF1 := hide hF1o; have HX1 := hide hF1; have HFR1 := hide hF1r; clear hF1r hF1o hF1)
  have HW1 := hide ((HB0.out.trans (HV0.out.mono HB0.out.size)).trans (HX1.out.mono (Nat.le_trans HB0.out.size z0)))
  have HS1 := hide (HSv.out.below HX1.out (Nat.le_refl _))
  have HT1 := hide (HTv.out.below HX1.out HTv.out.lt)
  replace HM := hide (HMv.out.self HX1.out)
  clear HSv HTv HMv
  rw [rounds_succ]
  have y1 : w1.cell? ⟨S, 1, none⟩ = some (.string p) := by
    obtain ⟨b_, o_, e_, _, hc_⟩ := HS1.out.at (by omega)
    injection e_ with e_
    injection e_ with e_ e2_ _
    subst e_
    subst e2_
    exact hc_ 1 _ rfl
  go_wp2_with fail
  refine (split16_bad p _ (HBAD.out _)).mono ?_
  rintro e w' ⟨rfl, rfl⟩
  have t0 : w1.cell? ⟨R, 0, none⟩ = some (.int .i64 0) := HT1.out.cell 0
  have t1 : w1.cell? ⟨R, 1, none⟩ = some (.slice none 0 0) := HT1.out.cell 1
  have f0 := HT1.out.frozen 0
  have f1 := HT1.out.frozen 1
  have lT := HT1.out.lt
  have HTf := (HT1.out.set_ 0 (.int .i64 0)).set_ 1 (.slice none 0 0)
  have q0 : ((w1.setCell ⟨R, 0, none⟩ (.int .i64 0)).setCell ⟨R, 1, none⟩ (.slice none 0 0)).cell? ⟨R, 0, none⟩ = some (.int .i64 0) := HTf.cell 0
  have q1 : ((w1.setCell ⟨R, 0, none⟩ (.int .i64 0)).setCell ⟨R, 1, none⟩ (.slice none 0 0)).cell? ⟨R, 1, none⟩ = some (.slice none 0 0) := HTf.cell 1
  clear HTf
  go_wp2_with fail
  refine bodyPost_ret (v := .tuple #[.agg #[.int .i64 0, .slice none 0 0], .int .i64 1]) (by simp [results, Tryz.results8, go_sem, q0, q1]) rfl ⟨rfl, ?_⟩
  exact ((HW1.out.setCell (p := ⟨R, 0, none⟩) hwR _).setCell (p := ⟨R, 1, none⟩) hwR _)

set_option maxRecDepth 100000 in
set_option maxHeartbeats 1600000 in
theorem make8_bad2 (r p q : ByteArray) (A : Option Addr) (c : Nat) (w : World) (hr : Rd w (.slice A 2 c) 1 2 [.string p, .string q]) (hm : Mx w) (kr : r.size ≤ 3000) (kp : p.size ≤ 3000) (hbad : ∀ w, Calls Tryz.prog 35 #[.string q] w fun e w' => e = .returned (.int .i64 1) ∧ w = w') :
    Calls Tryz.prog 8 #[.string r, .slice A 2 c] w fun e w' => e = .returned (.tuple #[.agg #[.int .i64 0, .slice none 0 0], .int .i64 1]) ∧ Below w.heap.size w w' := by
  obtain ⟨b, off, rfl, hb, hc⟩ := hr.at (by omega)
  have e0 : w.cell? ⟨b, off, none⟩ = some (.string p) := hc 0 _ rfl
  have e1 : w.cell? ⟨b, off + 1, none⟩ = some (.string q) := hc 1 _ rfl
  have HM := hide hm
  have hcp : ¬ 281474976710656 < Builtin.nextslicecap 3 1 * Tryz.t9.bytes := of_decide_eq_false (by kernel_rfl)
  clear hc hr hm
  go_enter Tryz.func8, Tryz.ntmps8
  go_wp2_with fail
  clear hcp e0 e1
  obtain ⟨cp, hcd⟩ : ∃ cp, cp = (Question.appendCap 3 1 9).cut (w.tape w.drawn (Question.appendCap 3 1 9)) := ⟨_, rfl⟩
  have hp1 : 3 ≤ cp := by rw [hcd]; exact grownCap_ge w 3 1 9
  have hp2 : cp ≤ maxLen := by rw [hcd]; exact grownCap_le_maxLen w 3 1 9 (by decide)
  rw [← hcd]
  obtain ⟨w0, hw0⟩ : ∃ w0, w0 = ((w.alloc (.cells #[.int .i64 0, .slice none 0 0] 37)).alloc (.cells #[.string r] 9)).alloc (.cells (#[.string r] ++ (#[.string p, .string q] ++ Builtin.zeroCells #[.string ⟨#[]⟩] (cp - 3))) 9) := ⟨_, rfl⟩
  have HB0 := hide (show Below w.heap.size w w0 by rw [hw0]; exact (((Below.refl _ _).alloc (Nat.le_refl _) _).alloc (by simp) _).alloc (by simp; omega) _)
  have HT0 := hide (show Blk w0 w.heap.size 37 #[.int .i64 0, .slice none 0 0] by rw [hw0]; exact ((Blk.new w 37 _).alloc _).alloc _)
  have HS0 := hide (show Rd w0 (.slice (some ⟨w.heap.size + 1 + 1, 0, none⟩) 3 cp) 1 3 [.string r, .string p, .string q] by
    rw [hw0]
    refine ⟨_, cp, rfl, hp1, hp2, rfl, fun _ => ⟨_, 0, rfl, by simp, fun j u hu => ?_⟩⟩
    have hB := Blk.new ((w.alloc (.cells #[.int .i64 0, .slice none 0 0] 37)).alloc (.cells #[.string r] 9)) 9 (#[.string r] ++ (#[.string p, .string q] ++ Builtin.zeroCells #[.string ⟨#[]⟩] (cp - 3)))
    rw [show ((w.alloc (.cells #[.int .i64 0, .slice none 0 0] 37)).alloc (.cells #[.string r] 9)).heap.size = w.heap.size + 1 + 1 by simp] at hB
    rw [Nat.zero_add, hB.cell, ← Array.append_assoc, Array.getElem?_append_left (by simpa using (List.getElem?_eq_some_iff.1 hu).1)]
    simpa using hu)
  obtain ⟨R, hR⟩ : ∃ R, R = w.heap.size := ⟨_, rfl⟩
  obtain ⟨S, hS⟩ : ∃ S, S = w.heap.size + 1 + 1 := ⟨_, rfl⟩
  have s0 : w0.heap.size = S + 1 := by rw [hw0, hS]; simp
  rw [← hw0]
  rw [← hS] at HS0 ⊢
  rw [← hR] at HT0 ⊢
  have hRS : R < S := by omega
  have hwR : w.heap.size ≤ R := by omega
  clear hw0 hcd hR hS
  replace HM := hide (HM.out.self HB0.out)
  have lS := s0
  have HBAD := hide hbad
  clear hbad
  refine wp_loop_rounds 3 ?_
  rw [rounds_succ]
  have y0 : w0.cell? ⟨S, 0, none⟩ = some (.string r) := by
    obtain ⟨b_, o_, e_, _, hc_⟩ := HS0.out.at (by omega)
    injection e_ with e_
    injection e_ with e_ e2_ _
    subst e_
    subst e2_
    exact hc_ 0 _ rfl
  go_wp2_with fail
  refine (split16_ok r w0.drew kr HM.out).mono ?_
  rintro e v1 ⟨A0, c0, rfl, hr0, hb0⟩
  have HR0 := hide hr0
  have HV0 := hide (show Below w0.heap.size w0 v1 from ⟨hb0.os, hb0.tape, hb0.output, hb0.size, hb0.block⟩)
  have z0 := HV0.out.size
  clear hr0 hb0 y0
  have HSv := hide (HS0.out.below HV0.out (Nat.le_refl _))
  have HTv := hide (HT0.out.below HV0.out HT0.out.lt)
  have HMv := hide (HM.out.self HV0.out)
  go_wp2_with (at_builtin; go_must (refine wp_app0 rfl (.tmp 44) (.tmp 46) 26 24 1 24 _ rfl Tryz.underlying26 info24 rfl (by omega) (by omega) v1 rfl _ _ rfl rfl rfl rfl ?_); intro gF1 cF1 w1 hF1a hF1b hF1s hF1r hF1o hF1; have HF1 := hide hF1o; have HX1 := hide hF1; have HFR1 := hide hF1r; clear hF1r hF1o hF1)
  have HW1 := hide ((HB0.out.trans (HV0.out.mono HB0.out.size)).trans (HX1.out.mono (Nat.le_trans HB0.out.size z0)))
  have HS1 := hide (HSv.out.below HX1.out (Nat.le_refl _))
  have HT1 := hide (HTv.out.below HX1.out HTv.out.lt)
  replace HM := hide (HMv.out.self HX1.out)
  clear HSv HTv HMv
  rw [rounds_succ]
  have y1 : w1.cell? ⟨S, 1, none⟩ = some (.string p) := by
    obtain ⟨b_, o_, e_, _, hc_⟩ := HS1.out.at (by omega)
    injection e_ with e_
    injection e_ with e_ e2_ _
    subst e_
    subst e2_
    exact hc_ 1 _ rfl
  go_wp2_with fail
  refine (split16_ok p w1 kp HM.out).mono ?_
  rintro e v2 ⟨A1, c1, rfl, hr1, hb1⟩
  have HR1 := hide hr1
  have HV1 := hide (show Below w1.heap.size w1 v2 from ⟨hb1.os, hb1.tape, hb1.output, hb1.size, hb1.block⟩)
  have z1 := HV1.out.size
  clear hr1 hb1 y1
  have HSv := hide (HS1.out.below HV1.out (Nat.le_refl _))
  have HTv := hide (HT1.out.below HV1.out HT1.out.lt)
  have HMv := hide (HM.out.self HV1.out)
  have HFv := hide (own_below HF1.out HV1.out (Nat.le_refl _))
  have zv : v1.heap.size ≤ v2.heap.size := by omega
  go_wp2_with (at_builtin; go_must (refine wp_app1k rfl (.tmp 44) (.tmp 46) 26 24 1 24 _ rfl Tryz.underlying26 info24 rfl (by omega) (by omega) v2 _ v1.heap.size 1 _ _ rfl _ _ rfl rfl HFv.out HFv.out (Nat.le_refl _) rfl rfl (by omega) zv ?_); intro vF2 w2 hF2 hX2 hK2 hF2s; have HF2 := hide hF2; have HX2 := hide hX2; have HFR2 := hide (Rd.of_own hF2); obtain ⟨AF2, cF2, rfl, hgF2⟩ := own_open hF2; clear hF2 hX2 hK2)
  have zw0 := HB0.out.size
  have lS1 : S < v1.heap.size := by omega
  have HW2 := hide ((HW1.out.trans (HV1.out.mono HW1.out.size)).trans (HX2.out.mono (by omega)))
  have HS2 := hide (HSv.out.belowAt HX2.out lS1)
  have HT2 := hide (HTv.out.below HX2.out (by omega))
  replace HM := hide (HMv.out.below HX2.out (by omega))
  clear HSv HTv HMv HFv
  rw [rounds_succ]
  have y2 : w2.cell? ⟨S, 2, none⟩ = some (.string q) := by
    obtain ⟨b_, o_, e_, _, hc_⟩ := HS2.out.at (by omega)
    injection e_ with e_
    injection e_ with e_ e2_ _
    subst e_
    subst e2_
    exact hc_ 2 _ rfl
  go_wp2_with fail
  refine (split16_bad q _ (HBAD.out _)).mono ?_
  rintro e w' ⟨rfl, rfl⟩
  have t0 : w2.cell? ⟨R, 0, none⟩ = some (.int .i64 0) := HT2.out.cell 0
  have t1 : w2.cell? ⟨R, 1, none⟩ = some (.slice none 0 0) := HT2.out.cell 1
  have f0 := HT2.out.frozen 0
  have f1 := HT2.out.frozen 1
  have lT := HT2.out.lt
  have HTf := (HT2.out.set_ 0 (.int .i64 0)).set_ 1 (.slice none 0 0)
  have q0 : ((w2.setCell ⟨R, 0, none⟩ (.int .i64 0)).setCell ⟨R, 1, none⟩ (.slice none 0 0)).cell? ⟨R, 0, none⟩ = some (.int .i64 0) := HTf.cell 0
  have q1 : ((w2.setCell ⟨R, 0, none⟩ (.int .i64 0)).setCell ⟨R, 1, none⟩ (.slice none 0 0)).cell? ⟨R, 1, none⟩ = some (.slice none 0 0) := HTf.cell 1
  clear HTf
  go_wp2_with fail
  refine bodyPost_ret (v := .tuple #[.agg #[.int .i64 0, .slice none 0 0], .int .i64 1]) (by simp [results, Tryz.results8, go_sem, q0, q1]) rfl ⟨rfl, ?_⟩
  exact ((HW2.out.setCell (p := ⟨R, 0, none⟩) hwR _).setCell (p := ⟨R, 1, none⟩) hwR _)
end Go.Proofs.YtbjbcfiieacamaaGreatDoor
