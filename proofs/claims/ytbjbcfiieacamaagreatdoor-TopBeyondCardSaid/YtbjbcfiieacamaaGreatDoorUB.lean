import Derived.Test.YtbjbcfiieacamaaGreatDoorUA
namespace Go.Proofs.YtbjbcfiieacamaaGreatDoor
open Go.RowKit
set_option linter.unusedVariables false

abbrev inVals (l : List Int) : List Value := l.map (.int .i64)
/-- A number from 0 on; nothing has turned. -/
def NatInt (w : World) (e : Ending) (w' : World) : Prop := ∃ x : Int, 0 ≤ x ∧ x ≤ 9223372036854775807 ∧ e = .returned (.int .i64 x) ∧ w = w'

theorem half_ok (a b : Int) : 0 ≤ wrap64 (bits BinOp.xor IntKind.u64 a b / 2) ∧ wrap64 (bits BinOp.xor IntKind.u64 a b / 2) ≤ 9223372036854775807 := by
  have h : 0 ≤ bits BinOp.xor IntKind.u64 a b ∧ bits BinOp.xor IntKind.u64 a b < 18446744073709551616 := by
    show 0 ≤ IntKind.u64.wrap _ ∧ IntKind.u64.wrap _ < _
    rw [IntKind.wrap_u64]
    omega
  generalize bits BinOp.xor IntKind.u64 a b = x at *
  rw [IntWalk.wrap64_in _ ⟨by omega, by omega⟩]
  omega

set_option maxRecDepth 100000 in
set_option maxHeartbeats 400000 in
theorem at11 (v : Value) (zs : List Int) (k : Int) (w : World) (hr : Rd w v 1 zs.length (inVals zs)) (hz : zs.length ≤ 9223372036854775807) (h0 : 0 ≤ k) (h2 : k ≤ 100000) :
    Calls Tryz.prog 11 #[v, .int .i64 k] w (NatInt w) := by
  obtain ⟨A, cap, rfl, hcap, hcap', hlen, hA⟩ := hr
  by_cases hm : 0 < zs.length
  · obtain ⟨b, off, rfl, hb, hc⟩ := hA hm
    have hlt : k % (zs.length : Int) < zs.length := Int.emod_lt_of_pos _ (by omega)
    have hge : 0 ≤ k % (zs.length : Int) := Int.emod_nonneg _ (by omega)
    obtain ⟨x, hx⟩ : ∃ x, w.cell? ⟨b, off + (k % (zs.length : Int)).toNat, none⟩ = some (.int .i64 x) := by
      refine ⟨zs[(k % (zs.length : Int)).toNat]'(by omega), hc _ _ ?_⟩
      simp [inVals]
    clear hc hA hlen
    go_enter Tryz.func11, Tryz.ntmps11
    go_wp2
    go_ret
    exact ⟨_, (half_ok _ _).1, (half_ok _ _).2, rfl, rfl⟩
  · have hz0 : zs.length = 0 := by omega
    have hz1 : ¬ (0 : Int) < (zs.length : Int) := by omega
    clear hA hlen
    generalize zs.length = z at *
    subst hz0
    go_enter Tryz.func11, Tryz.ntmps11
    go_wp2
    go_ret
    exact ⟨_, (half_ok _ _).1, (half_ok _ _).2, rfl, rfl⟩
end Go.Proofs.YtbjbcfiieacamaaGreatDoor
