import Derived.Test.YtbjbcfiieacamaaGreatDoorTJ
namespace Go.Proofs.YtbjbcfiieacamaaGreatDoor
open Go.RowKit
set_option linter.unusedVariables false

theorem Rd.lt2 {w : World} {A : Option Addr} {n cap size : Nat} {cs : List Value} (h : Rd w (.slice A n cap) size n cs) (hn : 0 < n) (b o : Nat) (e : A = some ⟨b, o, none⟩) : b < w.heap.size := by
  obtain ⟨b', o', e', hb, _⟩ := h.at hn
  rw [e'] at e
  injection e with e
  injection e with e
  omega
theorem itoa98 (i : Nat) (hi : i < 100) (w : World) : Calls Tryz.prog 98 #[.int .i64 i] w fun e w' => e = .returned (.string ⟨(Lib.decDigits i).toArray⟩) ∧ w = w' :=
  (Tryz.strconv_Itoa_small i hi w).mono fun _ _ ⟨a, b⟩ => ⟨a, b.symm⟩
theorem write85 (B b : Nat) (bs : List Value) (s : ByteArray) (w : World) (h : Lib.IsBuilder 143 5 B b bs w) (hlen : bs.length + s.size ≤ 140737488355328) (hBw : B ≤ w.heap.size) :
    Calls Tryz.prog 85 #[.pointer (some ⟨b, 0, none⟩), .string s] w fun e w' => e = .returned (.tuple #[.int .i64 s.size, .nilIface]) ∧ (Lib.BuilderAt 143 5 B b (.pointer (some ⟨b, 0, none⟩)) (bs ++ Lib.strCells s) w' ∧ Below B w w') :=
  Any.Builder_WriteString { Tryz.lays156 with } Tryz.Builder_Extra_156 B b bs s w h hlen hBw

set_option maxRecDepth 100000 in
set_option maxHeartbeats 400000 in
theorem fmt83_0 (w : World) : Calls Tryz.prog 83 #[.int .i64 0] w fun e w' => e = .returned (.string ⟨#[48]⟩) ∧ w = w' := by
  have H := hide (itoa98 0 (by omega) w)
  go_enter Tryz.func83, Tryz.ntmps83
  go_wp2_with fail
  refine H.out.mono ?_
  rintro e w' ⟨rfl, rfl⟩
  rw [show (Lib.decDigits 0).toArray = #[48] by decide +kernel]
  go_wp2_with fail
  go_ret
  exact ⟨rfl, rfl⟩

set_option maxRecDepth 100000 in
set_option maxHeartbeats 400000 in
theorem fmt83_1 (w : World) : Calls Tryz.prog 83 #[.int .i64 1] w fun e w' => e = .returned (.string ⟨#[49]⟩) ∧ w = w' := by
  have H := hide (itoa98 1 (by omega) w)
  go_enter Tryz.func83, Tryz.ntmps83
  go_wp2_with fail
  refine H.out.mono ?_
  rintro e w' ⟨rfl, rfl⟩
  rw [show (Lib.decDigits 1).toArray = #[49] by decide +kernel]
  go_wp2_with fail
  go_ret
  exact ⟨rfl, rfl⟩

set_option maxRecDepth 100000 in
set_option maxHeartbeats 400000 in
theorem range86_0 (w : World) : Calls Tryz.prog 86 #[.int .i64 0, .int .i64 0] w fun e w' => e = .returned (.string ⟨#[48, 44, 48]⟩) ∧ w = w' := by
  go_enter Tryz.func86, Tryz.ntmps86
  go_wp2_with fail
  refine (fmt83_0 _).mono ?_
  rintro e w' ⟨rfl, rfl⟩
  go_wp2_with fail
  go_ret
  exact ⟨rfl, rfl⟩

set_option maxRecDepth 100000 in
set_option maxHeartbeats 400000 in
theorem range86_1 (w : World) : Calls Tryz.prog 86 #[.int .i64 0, .int .i64 1] w fun e w' => e = .returned (.string ⟨#[49]⟩) ∧ w = w' := by
  go_enter Tryz.func86, Tryz.ntmps86
  go_wp2_with fail
  refine (fmt83_1 _).mono ?_
  rintro e w' ⟨rfl, rfl⟩
  go_wp2_with fail
  go_ret
  exact ⟨rfl, rfl⟩

set_option maxRecDepth 100000 in
set_option maxHeartbeats 400000 in
theorem plain95 (w : World) : Calls Tryz.prog 95 #[.int .u8 120] w fun e w' => e = .returned (.bool true) ∧ w = w' := by
  go_enter Tryz.func95, Tryz.ntmps95
  go_wp2_with fail
  go_ret
  exact ⟨rfl, rfl⟩

set_option maxRecDepth 100000 in
set_option maxHeartbeats 400000 in
theorem quote82 (w : World) : Calls Tryz.prog 82 #[.string ⟨#[120]⟩] w fun e w' => e = .returned (.string ⟨#[120]⟩) ∧ w = w' := by
  go_enter Tryz.func82, Tryz.ntmps82
  go_wp2_with fail
  refine wp_loop_rounds 2 ?_
  rw [rounds_succ]
  go_wp2_with fail
  refine (plain95 _).mono ?_
  rintro e w' ⟨rfl, rfl⟩
  go_wp2_with fail
  rw [rounds_succ]
  go_wp2_with fail
  go_ret
  exact ⟨rfl, rfl⟩

set_option maxRecDepth 100000 in
set_option maxHeartbeats 400000 in
theorem title63 (H : Value) (w : World) : Calls Tryz.prog 63 #[.agg #[.string ⟨#[120]⟩, .bool false, .int .i64 1, H]] w fun e w' => (∃ s, e = .returned (.string s) ∧ s.size = 28) ∧ Below w.heap.size w w' := by
  go_enter Tryz.func63, Tryz.ntmps63
  go_wp2_with fail
  go_quiet ((first | (go_at_call 82; exact Calls.quiet_of_same ((quote82 _).mono fun _ _ h => ⟨h.1, h.2.symm⟩)) | (go_at_call 83; exact Calls.quiet_of_same ((fmt83_1 _).mono fun _ _ h => ⟨h.1, h.2.symm⟩))))
  go_wp2_with fail
  go_ret
  exact ⟨⟨_, rfl, by decide⟩, below_drewN ((Below.refl _ _).alloc (Nat.le_refl _) _) _⟩


theorem repeat84 (w : World) : Calls Tryz.prog 84 #[.string ⟨#[64]⟩, .int .i64 2] w fun e w' => e = .returned (.string ⟨#[64, 64]⟩) ∧ Below w.heap.size w w' := by
  have h := Tryz.strings_Repeat ⟨#[64]⟩ 2 w (by omega) (by decide)
  rw [show (Lib.repeatL (⟨#[64]⟩ : ByteArray).data.toList 2).toArray = #[64, 64] by decide +kernel] at h
  exact h

set_option maxRecDepth 100000 in
set_option maxHeartbeats 1600000 in
theorem header64 (ba oa ca : Nat) (Ar : Option Addr) (cr : Nat) (w : World) (ha : Rd w (.slice (some ⟨ba, oa, none⟩) 2 ca) 1 2 [.int .i64 0, .int .i64 0]) (hr : Rd w (.slice Ar 1 cr) 3 1 rowL) :
    Calls Tryz.prog 64 #[.agg #[.slice (some ⟨ba, oa, none⟩) 2 ca, .slice Ar 1 cr], .int .i64 1] w fun e w' => (∃ s, e = .returned (.string s) ∧ s.size = 14) ∧ Below w.heap.size w w' := by
  have a0 : w.cell? ⟨ba, oa, none⟩ = some (.int .i64 0) := by
    obtain ⟨_, _, e, _, hc⟩ := ha.at (by omega)
    injection e with e
    injection e with e e2 _
    subst e
    subst e2
    exact hc 0 _ rfl
  have a1 : w.cell? ⟨ba, oa + 1, none⟩ = some (.int .i64 0) := by
    obtain ⟨_, _, e, _, hc⟩ := ha.at (by omega)
    injection e with e
    injection e with e e2 _
    subst e
    subst e2
    exact hc 1 _ rfl
  have lba := ha.lt2 (by omega) ba oa rfl
  have HA0 := hide a0
  have HA1 := hide a1
  have HR := hide hr
  clear ha hr a0 a1
  go_enter Tryz.func64, Tryz.ntmps64
  go_wp2_with fail
  refine (counts28_1 Ar cr _ (HR.out.alloc _)).mono ?_
  rintro e w1 ⟨D, rfl, hD, hwD, hb1⟩
  have HB1 := hide (((Below.refl w.heap.size w).alloc (Nat.le_refl _) (.cells #[.slice (some ⟨ba, oa, none⟩) 2 ca, .slice Ar 1 cr] 81)).trans (hb1.mono (by simp)))
  have HT1 := hide ((Blk.new w 81 #[.slice (some ⟨ba, oa, none⟩) 2 ca, .slice Ar 1 cr]).below hb1 (by simp))
  have HD1 := hide hD
  clear hb1 hD hwD
  go_wp2_with fail
  refine (repeat84 _).mono ?_
  rintro e w2 ⟨rfl, hb2⟩
  have z1 := HB1.out.size
  have HB2 := hide (HB1.out.trans (hb2.mono z1))
  have HT2 := hide (HT1.out.below hb2 HT1.out.lt)
  have HD2 := hide (HD1.out.below hb2 HD1.out.lt)
  have lD := HD2.out.lt
  have lT := HT2.out.lt
  have lA : ba < w2.heap.size := by have := HB2.out.size; omega
  clear hb2 HB1 HT1 HD1
  obtain ⟨T, hT⟩ : ∃ T, T = w.heap.size := ⟨_, rfl⟩
  rw [← hT] at HT2 lT ⊢
  have hwT : w.heap.size ≤ T := by omega
  clear hT
  obtain ⟨b, hbw⟩ : ∃ b, b = w2.heap.size := ⟨_, rfl⟩
  have HBb := hide (show Lib.IsBuilder 143 5 b b [] (w2.alloc (.cells #[.pointer none, .slice none 0 0] 143)) from .inl ⟨Nat.le_refl _, .slice none 0 0, by rw [hbw]; exact Blk.new w2 143 _, World.ownsRow_nil _ _ _ _, by simp [Value.ownBlock]⟩)
  have SB := hide (show ∀ X, Below b w2 X → X.cell? ⟨T, 0, none⟩ = some (.slice (some ⟨ba, oa, none⟩) 2 ca) ∧ X.cell? ⟨ba, oa, none⟩ = some (.int .i64 0) ∧ X.cell? ⟨ba, oa + 1, none⟩ = some (.int .i64 0) ∧ X.cell? ⟨D, 0, none⟩ = some (.int .i64 0) ∧ X.cell? ⟨D, 1, none⟩ = some (.int .i64 1) from fun X hX => by
    rw [hbw] at hX
    exact ⟨(hX.cell (p := ⟨T, 0, none⟩) lT).trans (HT2.out.cell 0), (hX.cell (p := ⟨ba, oa, none⟩) lA).trans ((HB2.out.cell (p := ⟨ba, oa, none⟩) lba).trans HA0.out), (hX.cell (p := ⟨ba, oa + 1, none⟩) lA).trans ((HB2.out.cell (p := ⟨ba, oa + 1, none⟩) lba).trans HA1.out), (hX.cell (p := ⟨D, 0, none⟩) lD).trans (HD2.out.cell 0), (hX.cell (p := ⟨D, 1, none⟩) lD).trans (HD2.out.cell 1)⟩)
  have HBA := hide (show Below b w2 (w2.alloc (.cells #[.pointer none, .slice none 0 0] 143)) from (Below.refl _ _).alloc (by omega) _)
  have hbl : b ≤ w2.heap.size := by omega
  have hbu : w2.heap.size ≤ b := by omega
  go_wp2_with fail
  rw [← hbw]
  clear hbw
  refine (write85 b b _ _ _ HBb.out (by decide) (by simp; omega)).mono ?_
  rintro e w3 ⟨rfl, hb3, hbel3⟩
  have HBb3 := hide hb3
  have HB3 := hide (HBA.out.trans hbel3)
  obtain ⟨s0, s1, s2, s3, s4⟩ := SB.out _ HB3.out
  clear hb3 hbel3 HBb HBA
  go_wp2_with fail
  refine wp_loop_rounds 2 ?_
  rw [rounds_succ]
  go_wp2_with fail
  have HI3 := hide (show Lib.IsBuilder 143 5 b b ([] ++ Lib.strCells ⟨#[64, 64]⟩) w3.drew from .inr HBb3.out)
  have hs3 : ([] ++ Lib.strCells ⟨#[64, 64]⟩).length + ((⟨#[32, 45]⟩ : ByteArray) ++ (⟨#[48, 44, 48]⟩ : ByteArray)).size ≤ 140737488355328 := by decide +kernel
  have hw3 : b ≤ w3.drew.heap.size := by have := HB3.out.size; show b ≤ w3.heap.size; omega
  go_region_held3 (fun X => Below b w2 X ∧ X.cell? ⟨T, 0, none⟩ = some (.slice (some ⟨ba, oa, none⟩) 2 ca) ∧ X.cell? ⟨ba, oa, none⟩ = some (.int .i64 0) ∧ X.cell? ⟨ba, oa + 1, none⟩ = some (.int .i64 0) ∧ X.cell? ⟨D, 0, none⟩ = some (.int .i64 0) ∧ X.cell? ⟨D, 1, none⟩ = some (.int .i64 1))
    (first | exact ⟨HB3.out.drew, SB.out _ HB3.out.drew⟩ | exact ⟨HB4.out, SB.out _ HB4.out⟩)
    (first
      | (go_at_call 86; refine (range86_0 _).mono ?_; rintro e w' ⟨rfl, rfl⟩)
      | (go_at_call 85; (with_reducible refine (write85 b b _ _ _ HI3.out hs3 hw3).mono ?_); rintro e w4 ⟨rfl, hb4, hbel4⟩; have HBb4 := hide hb4; have HB4 := hide (HB3.out.drew.trans hbel4); clear hb4 hbel4))
  have HI4 := hide (show Lib.IsBuilder 143 5 b b (([] ++ Lib.strCells ⟨#[64, 64]⟩) ++ Lib.strCells ((⟨#[32, 45]⟩ : ByteArray) ++ (⟨#[48, 44, 48]⟩ : ByteArray))) w4.drew from .inr HBb4.out)
  have hs4 : (([] ++ Lib.strCells ⟨#[64, 64]⟩) ++ Lib.strCells ((⟨#[32, 45]⟩ : ByteArray) ++ (⟨#[48, 44, 48]⟩ : ByteArray))).length + ((⟨#[32, 43]⟩ : ByteArray) ++ (⟨#[49]⟩ : ByteArray) ++ (⟨#[32]⟩ : ByteArray) ++ (⟨#[64, 64]⟩ : ByteArray) ++ (⟨#[10]⟩ : ByteArray)).size ≤ 140737488355328 := by decide +kernel
  have hw4 : b ≤ w4.drew.heap.size := by have := HB4.out.size; show b ≤ w4.heap.size; omega
  obtain ⟨p0, p1, p2, p3, p4⟩ := SB.out _ HB4.out
  clear s0 s1 s2 s3 s4 hs3 hw3
  go_wp2_with fail
  rw [rounds_succ]
  go_wp2_with fail
  go_region_held3 (fun X => Below b w2 X ∧ X.cell? ⟨T, 0, none⟩ = some (.slice (some ⟨ba, oa, none⟩) 2 ca) ∧ X.cell? ⟨ba, oa, none⟩ = some (.int .i64 0) ∧ X.cell? ⟨ba, oa + 1, none⟩ = some (.int .i64 0) ∧ X.cell? ⟨D, 0, none⟩ = some (.int .i64 0) ∧ X.cell? ⟨D, 1, none⟩ = some (.int .i64 1))
    (first | exact ⟨HB4.out.drew, SB.out _ HB4.out.drew⟩ | exact ⟨HB5.out, SB.out _ HB5.out⟩)
    (first
      | (go_at_call 86; refine (range86_1 _).mono ?_; rintro e w' ⟨rfl, rfl⟩)
      | (go_at_call 85; (with_reducible refine (write85 b b _ _ _ HI4.out hs4 hw4).mono ?_); rintro e w5 ⟨rfl, hb5, hbel5⟩; have HBb5 := hide hb5; have HB5 := hide (HB4.out.drew.trans hbel5); clear hb5 hbel5))
  have HI5 := hide (show Lib.IsBuilder 143 5 b b (Lib.byteCells [64, 64, 32, 45, 48, 44, 48, 32, 43, 49, 32, 64, 64, 10]) w5 from .inr (by have h := HBb5.out; rwa [show (([] ++ Lib.strCells ⟨#[64, 64]⟩) ++ Lib.strCells ((⟨#[32, 45]⟩ : ByteArray) ++ (⟨#[48, 44, 48]⟩ : ByteArray))) ++ Lib.strCells ((⟨#[32, 43]⟩ : ByteArray) ++ (⟨#[49]⟩ : ByteArray) ++ (⟨#[32]⟩ : ByteArray) ++ (⟨#[64, 64]⟩ : ByteArray) ++ (⟨#[10]⟩ : ByteArray)) = Lib.byteCells [64, 64, 32, 45, 48, 44, 48, 32, 43, 49, 32, 64, 64, 10] by rfl] at h))
  clear p0 p1 p2 p3 p4 hs4 hw4
  go_wp2_with fail
  refine (Tryz.Builder_String b b _ w5 HI5.out (by simp)).mono ?_
  rintro e w6 ⟨rfl, hb6⟩
  have HB6 := hide (HB2.out.trans ((HB5.out.trans hb6).mono (by have := HB2.out.size; omega)))
  clear hb6
  go_wp2_with fail
  go_ret
  exact ⟨⟨_, rfl, rfl⟩, HB6.out⟩
end Go.Proofs.YtbjbcfiieacamaaGreatDoor
