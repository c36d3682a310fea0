import Derived.Test.YtbjbcfiieacamaaGreatDoorUD
namespace Go.Proofs.YtbjbcfiieacamaaGreatDoor
open Go.RowKit
set_option linter.unusedVariables false

def tot (xs : List ByteArray) : Nat := (xs.map (·.size)).sum
theorem tot_app (xs ys : List ByteArray) : tot (xs ++ ys) = tot xs + tot ys := by simp [tot]
theorem tot_one (x : ByteArray) : tot [x] = x.size := by simp [tot]
def StrRet (w : World) (B : Nat) (e : Ending) (w' : World) : Prop := ∃ (v : Value) (xs : List ByteArray), e = .returned v ∧ Rd w' v 1 xs.length (xs.map .string) ∧ xs.length ≤ B ∧ tot xs ≤ B ∧ Below w.heap.size w w'

set_option maxRecDepth 100000 in
set_option maxHeartbeats 400000 in
theorem lines24 (s : ByteArray) (w : World) (hs : s.size ≤ 100000) :
    Calls Tryz.prog 24 #[.string s] w (StrRet w s.size) := by
  go_enter Tryz.func24, Tryz.ntmps24
  go_wp2_with fail
  go_loopw [3, 4, 5] (fun v st i wr => ∃ (xs : List ByteArray) (T I : Int), st = .int .i64 T ∧ i = .int .i64 I ∧ 0 ≤ T ∧ T ≤ I ∧ I ≤ s.size ∧ (xs.length : Int) ≤ I ∧ (tot xs : Int) ≤ T ∧ wr.ownsRow w.heap.size 9 1 v xs.length (xs.map .string) ∧ Below w.heap.size w wr)
    (fun _ _ i _ => ((s.size : Int) - intOf i).toNat)
  case atStart => exact ⟨[], 0, 0, rfl, rfl, by omega, by omega, by omega, by simp, by simp [tot], World.ownsRow_nil _ _ _ _, Below.refl _ _⟩
  case round =>
    obtain ⟨xs, T, I, rfl, rfl, hT0, hT1, hI1, hx1, hx2, hown, hbel⟩ := hrel
    have hbs := hbel.size
    by_cases hlt : I < s.size
    · have e5 : IntKind.i64.wrap (I + 1) = I + 1 := IntWalk.i64_in _ ⟨by omega, by omega⟩
      have k1 : (0 : Int) ≤ I := by omega
      have k2 : T ≤ I + 1 := by omega
      have k3 : I + 1 ≤ s.size := by omega
      go_wp2_with (at_builtin; go_must (refine wp_app1 rfl (.tmp 23) (.tmp 29) 24 9 1 16 _ rfl Tryz.underlying24 info9 rfl (by omega) (by omega) wr _ w.heap.size xs.length _ (xs.map .string) rfl _ _ rfl rfl hown hown (Nat.le_refl _) rfl rfl (by omega) hbs ?_); intro v1 w1 hown1 hb1 hold hsz1; clear hold)
      all_goals
        first
        | exact ⟨⟨xs, T, I + 1, rfl, rfl, by omega, by omega, by omega, by omega, by omega, hown, hbel⟩, by simp [intOf]; omega⟩
        | (refine ⟨⟨xs ++ [s.extract T.toNat (I + 1).toNat], I + 1, I + 1, rfl, rfl, by omega, by omega, by omega, ?_, ?_, ?_, hbel.trans hb1⟩, by simp [intOf]; omega⟩
           · simp
             omega
           · rw [tot_app, tot_one, ByteArray.size_extract]
             omega
           · rw [List.length_append, List.map_append]
             exact hown1)
    · go_wp2_with fail
      go_ret
      exact ⟨_, xs, rfl, Rd.of_own hown, by omega, by omega, hbel⟩
end Go.Proofs.YtbjbcfiieacamaaGreatDoor
