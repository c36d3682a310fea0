import Derived.Test.YtbjbcfiieacamaaGreatDoorTY
namespace Go.Proofs.YtbjbcfiieacamaaGreatDoor
open Go.RowKit
set_option linter.unusedVariables false

set_option maxRecDepth 100000 in
set_option maxHeartbeats 800000 in
theorem arise9 (w : World) (hm : Mx w) :
    Calls Tryz.prog 9 #[] w fun e w' => e = .returned (.bool true) ∧ Below w.heap.size w w' := by
  have HM := hide hm
  clear hm
  have hs : ((⟨#[97]⟩ : ByteArray) == ⟨#[97]⟩) = true := by decide
  go_enter Tryz.func9, Tryz.ntmps9
  go_wp2_with fail
  refine (full6_a _ _ _ (Rd.lit (W := w) (cs := [.string ⟨#[]⟩]) rfl rfl (by decide)) (HM.out.alloc _)).mono ?_
  rintro e w1 ⟨Ah, ch, ba, oa, ca, Ar, cr, rfl, hh, ha, hr, hb1, _, _, _⟩
  have HH := hide hh
  have HA := hide ha
  have HR := hide hr
  have HB := hide (((Below.refl w.heap.size w).alloc (Nat.le_refl _) (.cells #[.string ⟨#[]⟩] 9)).trans (hb1.mono (by simp)))
  clear hh ha hr hb1
  go_wp2_with fail
  refine (table21 _ _ _ _ _ _ _ _ (HH.out.alloc _) (HA.out.alloc _) (HR.out.alloc _)).mono ?_
  rintro e w2 ⟨A2, c2, rfl, hr2, hb2⟩
  have HR2 := hide hr2
  have HB2 := hide ((HB.out.alloc HB.out.size (.cells #[.string ⟨#[120]⟩, .bool false, .int .i64 1, .slice Ah 1 ch] 30)).trans (hb2.mono (Nat.le_trans HB.out.size (by simp))))
  clear hr2 hb2 HB HH HA HR
  go_wp2_with fail
  refine (column22 _ _ _ (HR2.out.alloc _)).mono ?_
  rintro e w3 ⟨rfl, hb3⟩
  have HB3 := hide ((HB2.out.alloc HB2.out.size (.cells #[.int .i64 1, .slice A2 1 c2] 37)).trans (hb3.mono (Nat.le_trans HB2.out.size (by simp))))
  clear hb3 HB2 HR2
  go_wp2_with fail
  go_ret
  exact ⟨rfl, HB3.out⟩
end Go.Proofs.YtbjbcfiieacamaaGreatDoor
