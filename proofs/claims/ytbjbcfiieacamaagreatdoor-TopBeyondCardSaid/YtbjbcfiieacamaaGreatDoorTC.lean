import Derived.Test.YtbjbcfiieacamaaGreatDoorTL
namespace Go.Proofs.YtbjbcfiieacamaaGreatDoor
open Go.RowKit
set_option linter.unusedVariables false

/-- How many lines a blob has, as text.Check counts them. -/
def linesOf (s : ByteArray) : Nat := Lib.countByte s.data.toList 10 + (if Lib.hasSuffix s.data.toList [10] then 0 else 1)
theorem str_ne {s : ByteArray} (h : 0 < s.size) : ¬ s.toList = [] ∧ (!s.toList.isEmpty) = true := by
  have h1 : s.data.toList ≠ [] := fun e => by
    have : s.data.toList.length = 0 := by rw [e]; rfl
    have h2 : s.data.toList.length = s.size := by simp
    omega
  rw [Lib.toList_data]
  refine ⟨h1, ?_⟩
  cases h2 : s.data.toList with
  | nil => exact absurd h2 h1
  | cons a l => rfl
theorem str_nil {s : ByteArray} (h : ¬ 0 < s.size) : s = ⟨#[]⟩ := by
  cases s with
  | mk d =>
    have : d.size = 0 := by have h2 : (ByteArray.mk d).size = d.size := rfl; omega
    rw [Array.eq_empty_of_size_eq_zero this]
theorem count_le (l : List UInt8) : Lib.countByte l 10 ≤ l.length := List.count_le_length

set_option maxRecDepth 100000 in
set_option maxHeartbeats 400000 in
theorem check35_big (s : ByteArray) (w : World) (hb : 1048576 < s.size) (hs : s.size ≤ 2000000) :
    Calls Tryz.prog 35 #[.string s] w fun e w' => e = .returned (.int .i64 1) ∧ w = w' := by
  have hc := count_le s.data.toList
  have hsz : s.data.toList.length = s.size := by simp
  rw [hsz] at hc
  obtain ⟨ne1, ne2⟩ := str_ne (s := s) (by omega)
  generalize hN : Lib.countByte s.data.toList 10 = n at *
  have HN := hide hN
  clear hN hsz
  have HN0 := HN
  cases hE : Lib.hasSuffix s.data.toList [10]
  all_goals
    have HE := hide hE
    clear hE
    go_enter Tryz.func35, Tryz.ntmps35
    go_wp2_with fail
    refine (count51 _ _).mono ?_
    rintro e w' ⟨rfl, rfl⟩
    rw [HN.out]
    go_wp2_with (go_at_call 52; refine (ended52 _ _ (by omega)).mono ?_; rintro e w' ⟨rfl, rfl⟩; rw [HE.out])
    go_ret
    exact ⟨rfl, rfl⟩

set_option maxRecDepth 100000 in
set_option maxHeartbeats 400000 in
theorem check35_many (s : ByteArray) (w : World) (hb : 4096 < Lib.countByte s.data.toList 10) (hs : s.size ≤ 1048576) :
    Calls Tryz.prog 35 #[.string s] w fun e w' => e = .returned (.int .i64 1) ∧ w = w' := by
  have hc := count_le s.data.toList
  have hsz : s.data.toList.length = s.size := by simp
  rw [hsz] at hc
  obtain ⟨ne1, ne2⟩ := str_ne (s := s) (by omega)
  generalize hN : Lib.countByte s.data.toList 10 = n at *
  have HN := hide hN
  clear hN hsz
  have HN0 := HN
  cases hE : Lib.hasSuffix s.data.toList [10]
  all_goals
    have HE := hide hE
    clear hE
    go_enter Tryz.func35, Tryz.ntmps35
    go_wp2_with fail
    refine (count51 _ _).mono ?_
    rintro e w' ⟨rfl, rfl⟩
    rw [HN.out]
    go_wp2_with (go_at_call 52; refine (ended52 _ _ (by omega)).mono ?_; rintro e w' ⟨rfl, rfl⟩; rw [HE.out])
    go_ret
    exact ⟨rfl, rfl⟩

set_option maxRecDepth 100000 in
set_option maxHeartbeats 400000 in
theorem check35_ok (s : ByteArray) (w : World) (hs : s.size ≤ 3000) :
    Calls Tryz.prog 35 #[.string s] w fun e w' => e = .returned (.int .i64 0) ∧ w = w' := by
  have hc := count_le s.data.toList
  have hsz : s.data.toList.length = s.size := by simp
  rw [hsz] at hc
  generalize hN : Lib.countByte s.data.toList 10 = n at *
  have HN := hide hN
  clear hN hsz
  by_cases ne : 0 < s.size
  case neg =>
    obtain rfl := str_nil ne
    clear ne
    have hc0 : n = 0 := by have h2 : (⟨#[]⟩ : ByteArray).size = 0 := rfl; omega
    subst hc0
    clear hc
    go_enter Tryz.func35, Tryz.ntmps35
    go_wp2_with fail
    refine (count51 _ _).mono ?_
    rintro e w' ⟨rfl, rfl⟩
    rw [HN.out]
    go_wp2_with fail
    go_ret
    exact ⟨rfl, rfl⟩
  obtain ⟨ne1, ne2⟩ := str_ne ne
  cases hE : Lib.hasSuffix s.data.toList [10]
  all_goals
    have HE := hide hE
    clear hE
    go_enter Tryz.func35, Tryz.ntmps35
    go_wp2_with fail
    refine (count51 _ _).mono ?_
    rintro e w' ⟨rfl, rfl⟩
    rw [HN.out]
    go_wp2_with (go_at_call 52; refine (ended52 _ _ (by omega)).mono ?_; rintro e w' ⟨rfl, rfl⟩; rw [HE.out])
    go_ret
    exact ⟨rfl, rfl⟩
end Go.Proofs.YtbjbcfiieacamaaGreatDoor
