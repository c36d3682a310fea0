import Derived.Test.YtbjbcfiieacamaaGreatDoorTU
namespace Go.Proofs.YtbjbcfiieacamaaGreatDoor
open Go.RowKit
set_option linter.unusedVariables false

set_option maxRecDepth 100000 in
set_option maxHeartbeats 400000 in
theorem join59 (A : Option Addr) (c : Nat) (w : World) (hr : Rd w (.slice A 1 c) 1 1 [.string ⟨#[97]⟩]) :
    Calls Tryz.prog 59 #[.slice A 1 c] w fun e w' => e = .returned (.tuple #[.string ⟨#[97]⟩, .int .i64 0]) ∧ Below w.heap.size w w' := by
  have hc1 := hr.len.1
  obtain ⟨b, off, rfl, hb, hc⟩ := hr.at (by omega)
  have e0 : w.cell? ⟨b, off, none⟩ = some (.string ⟨#[97]⟩) := hc 0 _ rfl
  clear hc hr
  have hi : (Lib.indexByte [97] (10 : Int).toNat.toUInt8) = -1 := by decide +kernel
  have hix : Calls Tryz.prog 79 #[.string ⟨#[97]⟩, .int .u8 10] w fun e w' => e = .returned (.int .i64 (-1)) ∧ w = w' := (Tryz.strings_IndexByte ⟨#[97]⟩ 10 w).mono fun e w' h => ⟨by rw [h.1]; exact ret_int hi, h.2.symm⟩
  have hj : (Lib.join [[97]] []) = [97] := by decide +kernel
  have hjo : Calls Tryz.prog 80 #[.slice (some ⟨b, off, none⟩) 1 c, .string ⟨#[]⟩] w fun e w' => e = .returned (.string ⟨#[97]⟩) ∧ Below w.heap.size w w' :=
    (Tryz.strings_Join b off c [⟨#[97]⟩] ⟨#[]⟩ w (fun j x hx => by
      have hlt := (List.getElem?_eq_some_iff.1 hx).1
      have h0 : j = 0 := by simp at hlt; omega
      subst h0
      injection hx with hx
      subst hx
      exact e0) hb (by decide) hc1 (by show (Lib.join [[97]] []).length ≤ _; rw [hj]; decide)).mono fun e w' h => ⟨by rw [h.1]; show Ending.returned (.string ⟨(Lib.join [[97]] []).toArray⟩) = _; rw [hj], h.2⟩
  have HI := hide hix
  have HJ := hide hjo
  clear hix hjo
  go_enter Tryz.func59, Tryz.ntmps59
  go_wp2_with fail
  refine wp_loop_rounds 2 ?_
  rw [rounds_succ]
  go_wp2_with fail
  refine HI.out.mono ?_
  rintro e w' ⟨rfl, rfl⟩
  go_wp2_with fail
  rw [rounds_succ]
  go_wp2_with fail
  refine HJ.out.mono ?_
  rintro e w1 ⟨rfl, hb1⟩
  go_wp2_with fail
  refine bodyPost_ret (v := .tuple #[.string ⟨#[97]⟩, .int .i64 0]) (by simp [results, Tryz.results59, go_sem]) rfl ⟨rfl, hb1⟩

set_option maxRecDepth 100000 in
set_option maxHeartbeats 400000 in
theorem column41 (A : Option Addr) (c : Nat) (w : World) (hr : Rd w (.slice A 1 c) 3 1 rowL) :
    Calls Tryz.prog 41 #[.agg #[.int .i64 1, .slice A 1 c], .int .i64 (-1)] w fun e w' => e = .returned (.tuple #[.string ⟨#[97]⟩, .int .i64 0]) ∧ Below w.heap.size w w' := by
  obtain ⟨b, off, rfl, hb, hc⟩ := hr.at (by omega)
  have r0 : w.cell? ⟨b, off, none⟩ = some (.bool false) := hc 0 _ rfl
  have r1 : w.cell? ⟨b, off + 1, none⟩ = some (.int .u32 1) := hc 1 _ rfl
  have r2 : w.cell? ⟨b, off + 2, none⟩ = some (.string ⟨#[97]⟩) := hc 2 _ rfl
  clear hc hr
  have hcp : ¬ 281474976710656 < Builtin.nextslicecap 1 0 * Tryz.t9.bytes := of_decide_eq_false (by kernel_rfl)
  go_enter Tryz.func41, Tryz.ntmps41
  go_wp2_with fail
  refine wp_loop_rounds 2 ?_
  rw [rounds_succ]
  go_wp2_with fail
  refine (visible45r _).mono ?_
  rintro e w1 ⟨rfl, hb1⟩
  have HT := hide ((Blk.new (w.alloc (.cells #[.int .i64 1, .slice (some ⟨b, off, none⟩) 1 c] 37)) 79 #[.bool false, .int .u32 1, .string ⟨#[97]⟩]).below hb1 (by simp))
  have HB := hide ((((Below.refl w.heap.size w).alloc (Nat.le_refl _) (.cells #[.int .i64 1, .slice (some ⟨b, off, none⟩) 1 c] 37)).alloc (by simp) (.cells #[.bool false, .int .u32 1, .string ⟨#[97]⟩] 79)).trans (hb1.mono (by simp; omega)))
  rw [show (w.alloc (.cells #[.int .i64 1, .slice (some ⟨b, off, none⟩) 1 c] 37)).heap.size = w.heap.size + 1 by simp] at HT
  obtain ⟨R, hR⟩ : ∃ R, R = w.heap.size + 1 := ⟨_, rfl⟩
  rw [← hR] at HT ⊢
  have t2 : w1.cell? ⟨R, 2, none⟩ = some (.string ⟨#[97]⟩) := HT.out.cell 2
  clear hb1 hR r0 r1 r2
  go_wp2_with fail
  obtain ⟨cp, hcd⟩ : ∃ cp, cp = (Question.appendCap 1 0 9).cut (w1.tape w1.drawn (Question.appendCap 1 0 9)) := ⟨_, rfl⟩
  have c1 : 1 ≤ cp := by rw [hcd]; exact grownCap_ge w1 1 0 9
  have c2 : cp ≤ maxLen := by rw [hcd]; exact grownCap_le_maxLen w1 1 0 9 (by decide)
  rw [← hcd]
  obtain ⟨w2, hw2⟩ : ∃ w2, w2 = ((w1.alloc (.cells #[.string ⟨#[97]⟩] 9)).alloc (.cells (#[.string ⟨#[97]⟩] ++ Builtin.zeroCells #[.string ⟨#[]⟩] (cp - 1)) 9)).drew := ⟨_, rfl⟩
  rw [← hw2]
  have HU := hide (show Rd w2 (.slice (some ⟨w1.heap.size + 1, 0, none⟩) 1 cp) 1 1 [.string ⟨#[97]⟩] by
    rw [hw2]; exact Rd.drewN (Rd.grown (news := #[.string ⟨#[97]⟩]) (by simp) rfl c1 c2) 1)
  have HB2 := hide (show Below w.heap.size w w2 by
    rw [hw2]; exact below_drewN ((HB.out.alloc HB.out.size _).alloc (Nat.le_trans HB.out.size (by simp)) _) 1)
  clear hw2 hcd t2 HT HB hcp
  rw [rounds_succ]
  go_wp2_with fail
  refine (join59 _ _ _ HU.out).mono ?_
  rintro e w3 ⟨rfl, hb3⟩
  go_wp2_with fail
  refine bodyPost_ret (v := .tuple #[.string ⟨#[97]⟩, .int .i64 0]) (by simp [results, Tryz.results41, go_sem]) rfl ⟨rfl, HB2.out.trans (hb3.mono HB2.out.size)⟩

set_option maxRecDepth 100000 in
set_option maxHeartbeats 400000 in
theorem column22 (A : Option Addr) (c : Nat) (w : World) (hr : Rd w (.slice A 1 c) 3 1 rowL) :
    Calls Tryz.prog 22 #[.agg #[.int .i64 1, .slice A 1 c], .int .i64 (-1)] w fun e w' => e = .returned (.tuple #[.string ⟨#[97]⟩, .int .i64 0]) ∧ Below w.heap.size w w' := by
  have HR := hide hr
  clear hr
  go_enter Tryz.func22, Tryz.ntmps22
  go_wp2_with fail
  refine (check25 _ _ _ (HR.out.alloc _)).mono ?_
  rintro e w1 ⟨rfl, hb1⟩
  have HT := hide ((Blk.new w 37 #[.int .i64 1, .slice A 1 c]).below hb1 (by simp))
  have HB := hide (((Below.refl w.heap.size w).alloc (Nat.le_refl _) (.cells #[.int .i64 1, .slice A 1 c] 37)).trans (hb1.mono (by simp)))
  obtain ⟨T, hT⟩ : ∃ T, T = w.heap.size := ⟨_, rfl⟩
  rw [← hT] at HT ⊢
  have t0 : w1.cell? ⟨T, 0, none⟩ = some (.int .i64 1) := HT.out.cell 0
  have t1 : w1.cell? ⟨T, 1, none⟩ = some (.slice A 1 c) := HT.out.cell 1
  clear hb1 hT
  go_wp2_with fail
  refine (column41 _ _ _ (HR.out.below HB.out (Nat.le_refl _))).mono ?_
  rintro e w2 ⟨rfl, hb2⟩
  go_wp2_with fail
  refine bodyPost_ret (v := .tuple #[.string ⟨#[97]⟩, .int .i64 0]) (by simp [results, Tryz.results22, go_sem]) rfl ⟨rfl, HB.out.trans (hb2.mono HB.out.size)⟩
end Go.Proofs.YtbjbcfiieacamaaGreatDoor
