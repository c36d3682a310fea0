import Derived.Test.YtbjbcfiieacamaaGreatDoorTC
namespace Go.Proofs.YtbjbcfiieacamaaGreatDoor
open Go.RowKit
set_option linter.unusedVariables false

/-- The pieces into which SplitAfter cuts a blob; the lines of a blob. -/
def pieceN (s : ByteArray) : Nat := min (Lib.countB s nl + 1) (s.size + 1)
def pieces (s : ByteArray) : List ByteArray := Lib.splitB nl 1 (pieceN s - 1) s
def lines (s : ByteArray) : List ByteArray := if (pieces s).getLast? = some ⟨#[]⟩ then (pieces s).dropLast else pieces s
theorem pieces_pos (s : ByteArray) : 0 < (pieces s).length := by
  unfold pieces
  generalize pieceN s - 1 = k
  cases k with
  | zero => simp [Lib.splitB_zero]
  | succ k =>
    unfold Lib.splitB
    split <;> simp
theorem pieces_le (s : ByteArray) : (pieces s).length ≤ pieceN s := by
  have h1 := Lib.splitB_length_le nl 1 (pieceN s - 1) s
  have h2 : 0 < pieceN s := by unfold pieceN; omega
  unfold pieces
  omega

set_option maxRecDepth 100000 in
set_option maxHeartbeats 400000 in
theorem after36 (s : ByteArray) (w : World) (hs : s.size ≤ 3000) (hm : Mx w) :
    Calls Tryz.prog 36 #[.string s, .string ⟨#[10]⟩] w fun e w' => e = .returned (.slice (some ⟨w.heap.size, 0, none⟩) (pieces s).length (pieceN s)) ∧ w' = w.alloc (.cells (Lib.cellsOf (pieces s) (pieceN s)) 9) := by
  obtain ⟨hm0, m, hm⟩ := hm
  have H := hide (Tryz.strings_genSplit s nl 1 (-1) (pieceN s) m w (by omega) hm (by decide) (by decide) (by decide) (by decide) (by rw [if_pos (by decide)]; unfold pieceN; omega))
  go_enter Tryz.func36, Tryz.ntmps36
  go_wp2_with fail
  refine H.out.mono ?_
  rintro e w' ⟨rfl, rfl⟩
  go_wp2_with fail
  go_ret
  exact ⟨rfl, rfl⟩


theorem pieces_rd (s : ByteArray) (w : World) (hs : s.size ≤ 3000) (n : Nat) (cs : List ByteArray) (hn : cs.length = n) (hp : ∃ r, pieces s = cs ++ r) : Rd (w.alloc (.cells (Lib.cellsOf (pieces s) (pieceN s)) 9)) (.slice (some ⟨w.heap.size, 0, none⟩) n (pieceN s)) 1 n (cs.map Value.string) := by
  obtain ⟨r, hr⟩ := hp
  have h1 := pieces_le s
  have h2 : pieceN s ≤ 3001 := by unfold pieceN; omega
  refine ⟨_, _, rfl, by rw [hr] at h1; simp at h1; omega, by unfold maxLen; omega, by simp [hn], fun _ => ⟨w.heap.size, 0, rfl, by simp, fun j u hu => ?_⟩⟩
  rw [Nat.zero_add, (Blk.new w 9 _).cell]
  unfold Lib.cellsOf
  rw [hr, List.getElem?_toArray, List.map_append, List.append_assoc, List.getElem?_append_left (by exact (List.getElem?_eq_some_iff.1 hu).1)]
  exact hu

set_option maxRecDepth 100000 in
set_option maxHeartbeats 400000 in
theorem split16_bad (s : ByteArray) (w : World) (h : Calls Tryz.prog 35 #[.string s] w fun e w' => e = .returned (.int .i64 1) ∧ w = w') :
    Calls Tryz.prog 16 #[.string s] w fun e w' => e = .returned (.tuple #[.slice none 0 0, .int .i64 1]) ∧ w = w' := by
  have H := hide h
  clear h
  go_enter Tryz.func16, Tryz.ntmps16
  go_wp2_with fail
  refine H.out.mono ?_
  rintro e w' ⟨rfl, rfl⟩
  go_wp2_with fail
  go_returns
  exact ⟨rfl, rfl⟩


/-- What Split hands back: the lines. -/
def SplitOk (s : ByteArray) (w : World) (e : Ending) (w' : World) : Prop := ∃ A cap, e = .returned (.tuple #[.slice A (lines s).length cap, .int .i64 0]) ∧ Rd w' (.slice A (lines s).length cap) 1 (lines s).length ((lines s).map Value.string) ∧ Below w.heap.size w w'

set_option maxRecDepth 100000 in
set_option maxHeartbeats 400000 in
theorem split16_ok (s : ByteArray) (w : World) (hs : s.size ≤ 3000) (hm : Mx w) : Calls Tryz.prog 16 #[.string s] w (SplitOk s w) := by
  have HA := hide (after36 s w hs hm)
  have HR := fun n cs hn hp => pieces_rd s w hs n cs hn hp
  obtain ⟨N, hN⟩ : ∃ N, N = pieceN s := ⟨_, rfl⟩
  have hN2 : N ≤ 3001 := by rw [hN]; unfold pieceN; omega
  have hle := pieces_le s
  have hpos := pieces_pos s
  obtain ⟨P, hP⟩ : ∃ P, P = pieces s := ⟨_, rfl⟩
  have hL : lines s = if P.getLast? = some ⟨#[]⟩ then P.dropLast else P := by rw [hP]; rfl
  rw [← hN, ← hP] at HA HR
  rw [← hN, ← hP] at hle
  rw [← hP] at hpos
  clear hN hP
  have hl : P = P.dropLast ++ [P.getLast (by intro e; rw [e] at hpos; simp at hpos)] := (List.dropLast_concat_getLast _).symm
  generalize P.dropLast = D at *
  generalize P.getLast (by intro e; rw [e] at hpos; simp at hpos) = x at *
  subst hl
  have hlen : (D ++ [x]).length = D.length + 1 := by simp
  rw [List.getLast?_concat] at hL
  rw [hlen] at hle hpos
  rw [hlen] at HA
  have R1 := HR (D.length + 1) (D ++ [x]) hlen ⟨[], by simp⟩
  have R2 := HR D.length D rfl ⟨[x], rfl⟩
  clear HR
  obtain ⟨C, hC⟩ : ∃ C, C = Lib.cellsOf (D ++ [x]) N := ⟨_, rfl⟩
  rw [← hC] at HA R1 R2
  have hc : (w.alloc (.cells C 9)).cell? ⟨w.heap.size, D.length, none⟩ = some (.string x) := by
    obtain ⟨b, off, e, hb, hcc⟩ := R1.at (by omega)
    injection e with e
    injection e with e1 e2 _
    subst e1
    subst e2
    have := hcc D.length (.string x) (by simp)
    rwa [Nat.zero_add] at this
  have hB := hide ((Below.refl w.heap.size w).alloc (Nat.le_refl _) (.cells C 9))
  have HR1 := hide R1
  have HR2 := hide R2
  obtain ⟨W1, hW1⟩ : ∃ W1, W1 = w.alloc (.cells C 9) := ⟨_, rfl⟩
  rw [← hW1] at HA HR1 HR2 hc hB
  have hwl : w.heap.size < W1.heap.size := by rw [hW1]; simp
  have HC := hide (show _ ∧ _ from ⟨hC, hW1⟩)
  clear R1 R2 hC hW1 HC hlen
  obtain ⟨H, hH⟩ : ∃ H, H = w.heap.size := ⟨_, rfl⟩
  have HH := hide hH
  rw [← hH] at HA HR1 HR2 hc hwl
  have i0 : (0 : Int) ≤ (D.length : Int) := by omega
  by_cases hx : 0 < x.size
  · obtain ⟨ne1, ne2⟩ := str_ne hx
    have ne3 : x.toList.isEmpty = false := by simpa using ne2
    rw [if_neg (by rintro e; injection e with e; subst e; exact absurd hx (by decide))] at hL
    have HL := hide hL
    clear hL hH
    go_enter Tryz.func16, Tryz.ntmps16
    go_wp2_with fail
    refine (check35_ok s _ hs).mono ?_
    rintro e w' ⟨rfl, rfl⟩
    go_wp2_with fail
    refine HA.out.mono ?_
    rintro e w' ⟨rfl, rfl⟩
    go_wp2_with fail
    go_returns
    exact ⟨some ⟨H, 0, none⟩, N, by rw [HL.out]; simp, by rw [HL.out, List.length_append]; exact HR1.out, hB.out⟩
  · obtain rfl := str_nil hx
    rw [if_pos rfl] at hL
    have HL := hide hL
    clear hL hH hx
    go_enter Tryz.func16, Tryz.ntmps16
    go_wp2_with fail
    refine (check35_ok s _ hs).mono ?_
    rintro e w' ⟨rfl, rfl⟩
    go_wp2_with fail
    refine HA.out.mono ?_
    rintro e w' ⟨rfl, rfl⟩
    go_wp2_with fail
    go_returns
    exact ⟨some ⟨H, 0, none⟩, N, by rw [HL.out]; rfl, by rw [HL.out]; exact HR2.out, hB.out⟩
end Go.Proofs.YtbjbcfiieacamaaGreatDoor
