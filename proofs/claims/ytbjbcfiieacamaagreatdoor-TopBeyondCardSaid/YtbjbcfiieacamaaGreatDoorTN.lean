import Derived.Test.YtbjbcfiieacamaaGreatDoorTM
namespace Go.Proofs.YtbjbcfiieacamaaGreatDoor
open Go.RowKit
set_option linter.unusedVariables false

theorem make55_2 (w : World) : (Instr.makeSlice 55 (.int .i64 2) (.int .i64 2)).run Tryz.prog w = .ok (.slice (some ⟨w.heap.size, 0, none⟩) 2 2) (w.alloc (.cells #[.slice none 0 0, .slice none 0 0] 22)) := by kernel_rfl
/-- Behind the one line of the first file. -/
def NumMid (w W1 : World) (O G M : Nat) (wx : World) : Prop := ∃ A2 c2 A3 c3, Blk wx O 22 #[.slice A3 1 c3, .slice none 0 0] ∧ Rd wx (.slice A3 1 c3) 1 1 [.int .i64 0] ∧ Blk wx G 115 #[.map (some M), .slice A2 1 c2] ∧ Rd wx (.slice A2 1 c2) 1 1 [.string ⟨#[97]⟩] ∧ Below w.heap.size w wx ∧ W1.heap.size ≤ wx.heap.size
def NumRet (w : World) (e : Ending) (w' : World) : Prop := ∃ O B1 d1 An dn, e = .returned (.tuple #[.slice (some ⟨O, 0, none⟩) 2 2, .slice An 1 dn]) ∧ Rd w' (.slice (some ⟨O, 0, none⟩) 2 2) 1 2 [.slice B1 1 d1, .slice none 0 0] ∧ Rd w' (.slice B1 1 d1) 1 1 [.int .i64 0] ∧ Rd w' (.slice An 1 dn) 1 1 [.string ⟨#[97]⟩] ∧ Below w.heap.size w w'

set_option maxRecDepth 100000 in
set_option maxHeartbeats 800000 in
theorem number37 (w : World) (A A1 Az : Option Addr) (c c1 cz : Nat) (hr : Rd w (.slice A 2 c) 1 2 [.slice A1 1 c1, .slice Az 0 cz]) (hr1 : Rd w (.slice A1 1 c1) 1 1 [.string ⟨#[97]⟩]) :
    Calls Tryz.prog 37 #[.slice A 2 c] w (NumRet w) := by
  obtain ⟨b, off, rfl, hb, hc⟩ := hr.at (by omega)
  obtain ⟨b1, off1, rfl, hb1, hc1⟩ := hr1.at (by omega)
  have e0 : w.cell? ⟨b, off, none⟩ = some (.slice (some ⟨b1, off1, none⟩) 1 c1) := hc 0 _ rfl
  have e1 : w.cell? ⟨b, off + 1, none⟩ = some (.slice Az 0 cz) := hc 1 _ rfl
  have HE1 := hide e1
  have e2 : w.cell? ⟨b1, off1, none⟩ = some (.string ⟨#[97]⟩) := hc1 0 _ rfl
  clear hc hc1 hr hr1
  have hmm := @run_makeMap Tryz.prog
  have hmk := make55_2
  go_enter Tryz.func37, Tryz.ntmps37
  go_wp2_with fail
  clear hmm hmk
  obtain ⟨W1, hW1⟩ : ∃ W1, W1 = ((w.alloc (.map #[] 0)).alloc (.cells #[.map (some w.heap.size), .slice none 0 0] 115)).alloc (.cells #[.slice none 0 0, .slice none 0 0] 22) := ⟨_, rfl⟩
  have HB : Below w.heap.size w W1 := by rw [hW1]; exact (((Below.refl _ _).alloc (Nat.le_refl _) _).alloc (by simp) _).alloc (by simp; omega) _
  have sW : W1.heap.size = w.heap.size + 1 + 1 + 1 := by rw [hW1]; simp
  have HO : Blk W1 (w.heap.size + 1 + 1) 22 #[.slice none 0 0, .slice none 0 0] := by
    have h := Blk.new ((w.alloc (.map #[] 0)).alloc (.cells #[.map (some w.heap.size), .slice none 0 0] 115)) 22 #[.slice none 0 0, .slice none 0 0]
    rw [← hW1] at h
    simpa using h
  have HG : Blk W1 (w.heap.size + 1) 115 #[.map (some w.heap.size), .slice none 0 0] := by
    have h := (Blk.new (w.alloc (.map #[] 0)) 115 #[.map (some w.heap.size), .slice none 0 0]).alloc (.cells #[.slice none 0 0, .slice none 0 0] 22)
    rw [← hW1] at h
    simpa using h
  have HM : W1.heap[w.heap.size]? = some (.map #[] 0) := by
    rw [hW1]
    rw [Below.heap_alloc _ _ _ (by simp; omega), Below.heap_alloc _ _ _ (by simp)]
    exact heap_alloc_new w _
  rw [← hW1]
  clear hW1
  have f0 := (HB.cell (p := ⟨b, off, none⟩) hb).trans e0
  have f1 := (HB.cell (p := ⟨b, off + 1, none⟩) hb).trans e1
  have f2 := (HB.cell (p := ⟨b1, off1, none⟩) hb1).trans e2
  have g0 : W1.cell? ⟨w.heap.size + 1 + 1, 0, none⟩ = some (.slice none 0 0) := HO.cell 0
  have g1 : W1.cell? ⟨w.heap.size + 1 + 1, 1, none⟩ = some (.slice none 0 0) := HO.cell 1
  clear e0 e1 e2
  obtain ⟨O, hO⟩ : ∃ O, O = w.heap.size + 1 + 1 := ⟨_, rfl⟩
  obtain ⟨G, hG⟩ : ∃ G, G = w.heap.size + 1 := ⟨_, rfl⟩
  obtain ⟨M, hM⟩ : ∃ M, M = w.heap.size := ⟨_, rfl⟩
  rw [← hO] at HO g0 g1 ⊢
  rw [← hG] at HG ⊢
  rw [← hM] at HG HM ⊢
  have q1 : G < O := by omega
  have q2 : M < G := by omega
  have q3 : O < W1.heap.size := by omega
  have q4 : w.heap.size ≤ M := by omega
  have HMh := hide HM
  have HGh := hide HG
  have HOh := hide HO
  have HBh := hide HB
  have HK := hide (show ∀ w2, Two_ G M W1.drew w2 → Blk w2 O 22 #[.slice none 0 0, .slice none 0 0] from fun w2 h => (h O q3 (by omega) (by omega)).trans HO)
  clear HM HG HO HB hO hG hM sW
  refine wp_loop_rounds 3 ?_
  rw [rounds_succ]
  go_wp2_with fail
  refine wp_loop_rounds 2 ?_
  rw [rounds_succ]
  go_wp2_with fail
  go_region_law (first
      | (go_simp; go_at_call 54; refine (id54 W1.drew G M HGh.out HMh.out).mono ?_; rintro e w2 ⟨A2, c2, rfl, hg2, hr2, hx2, ht2, hb2⟩; have HO2 := hide (HK.out _ ht2); have HB2 := hide (hb2 w.heap.size (by omega) (by omega) (by show w.heap.size ≤ W1.heap.size; omega)); have HG2 := hide hg2; have HR2 := hide hr2; have HX2 := hide hx2; clear hx2; have s2 := HB2.out.size; have l2 := HO2.out.lt; have m2 := HG2.out.lt; have ce2 : w2.cell? ⟨O, 0, none⟩ = some (.slice none 0 0) := HO2.out.cell 0; clear hg2 hr2 ht2 hb2)
      | (refine step_app1 rfl (.tmp 34) (.tmp 38) 22 3 1 8 _ (by rfl) Tryz.underlying22 info3 rfl (by omega) (by omega) w2 w2 w2.heap.size 0 _ [] (by rfl) _ _ (by rfl) rfl (by rfl) (World.ownsRow_nil _ _ _ _) (World.ownsRow_nil _ _ _ _) (Nat.le_refl _) rfl rfl (by omega) (Nat.le_refl _) ?_; intro v3 w3 hown3 hb3 hold3 hs3; have HO3 := hide (HO2.out.below hb3 l2); have HG3 := hide (HG2.out.below hb3 m2); have fz3 := HO3.out.frozen 0; have ce3 : w3.cell? ⟨O, 0, none⟩ = some (.slice none 0 0) := HO3.out.cell 0; have HB3 := hide hb3; have HOWN3 := hide hown3; obtain ⟨A3, c3, rfl, hg3⟩ := own_open hown3; have HX3 := hide hg3; clear hold3 hg3 hown3 hb3))
  all_goals
    have hbo : b ≠ O := by omega
    have hgo : G ≠ O := by omega
    have BW : Below w.heap.size w w3 := (HBh.out.drew.trans HB2.out).trans (HB3.out.mono (by omega))
    have fb := (BW.cell (p := ⟨b, off + 1, none⟩) hb).trans HE1.out
    have fG : w3.cell? ⟨G, 1, none⟩ = some (.slice A2 1 c2) := HG3.out.cell 1
    clear f0 f1 f2 g0 g1 ce2
    go_wp2_with fail
    rw [rounds_succ]
    go_wp2_with fail
    rw [rounds_succ]
    go_wp2_with fail
    refine wp_loop_rounds 1 ?_
    rw [rounds_succ]
    go_wp2_with fail
    rw [rounds_succ]
    go_wp2_with fail
    go_quiet (fail)
    go_wp2_with fail
    go_returns
    refine ⟨O, A3, c3, A2, c2, rfl, ?_, ?_, ?_, ?_⟩
    · exact (HO3.out.set_ 0 _).rd (cs := [.slice A3 1 c3, .slice none 0 0]) rfl (Nat.le_refl _) (by decide)
    · refine (Rd.of_own HOWN3.out).far (fun _ b' off' e => ?_) _
      obtain ⟨g', e', h1, h2⟩ := HX3.out (by omega)
      rw [e'] at e
      injection e with e
      injection e with e
      show b' ≠ O
      omega
    · refine (HR2.out.below HB3.out (Nat.le_refl _)).far (fun hn b' off' e => ?_) _
      have h1 : W1.heap.size ≤ b' := HX2.out b' off' e
      show b' ≠ O
      omega
    · exact below_drewN (BW.setCell (p := ⟨O, 0, none⟩) (by show w.heap.size ≤ O; omega) _) _


def IdsRet (w : World) (e : Ending) (w' : World) : Prop := ∃ O B1 d1, e = .returned (.slice (some ⟨O, 0, none⟩) 2 2) ∧ Rd w' (.slice (some ⟨O, 0, none⟩) 2 2) 1 2 [.slice B1 1 d1, .slice none 0 0] ∧ Rd w' (.slice B1 1 d1) 1 1 [.int .i64 0] ∧ Below w.heap.size w w'
def NamesRet (w : World) (e : Ending) (w' : World) : Prop := ∃ An dn, e = .returned (.slice An 1 dn) ∧ Rd w' (.slice An 1 dn) 1 1 [.string ⟨#[97]⟩] ∧ Below w.heap.size w w'

set_option maxRecDepth 100000 in
set_option maxHeartbeats 400000 in
theorem ids17 (w : World) (A A1 Az : Option Addr) (c c1 cz : Nat) (hr : Rd w (.slice A 2 c) 1 2 [.slice A1 1 c1, .slice Az 0 cz]) (hr1 : Rd w (.slice A1 1 c1) 1 1 [.string ⟨#[97]⟩]) :
    Calls Tryz.prog 17 #[.slice A 2 c] w (IdsRet w) := by
  have H := hide (number37 w A A1 Az c c1 cz hr hr1)
  clear hr hr1
  go_enter Tryz.func17, Tryz.ntmps17
  go_wp2_with fail
  refine H.out.mono ?_
  rintro e w' ⟨O, B1, d1, An, dn, rfl, h1, h2, h3, h4⟩
  have H1 := hide h1
  have H2 := hide h2
  have H3 := hide h3
  have H4 := hide h4
  clear h1 h2 h3 h4 H
  go_wp2_with fail
  go_ret
  exact ⟨O, B1, d1, rfl, H1.out, H2.out, H4.out⟩

set_option maxRecDepth 100000 in
set_option maxHeartbeats 400000 in
theorem names18 (w : World) (A A1 Az : Option Addr) (c c1 cz : Nat) (hr : Rd w (.slice A 2 c) 1 2 [.slice A1 1 c1, .slice Az 0 cz]) (hr1 : Rd w (.slice A1 1 c1) 1 1 [.string ⟨#[97]⟩]) :
    Calls Tryz.prog 18 #[.slice A 2 c] w (NamesRet w) := by
  have H := hide (number37 w A A1 Az c c1 cz hr hr1)
  clear hr hr1
  go_enter Tryz.func18, Tryz.ntmps18
  go_wp2_with fail
  refine H.out.mono ?_
  rintro e w' ⟨O, B1, d1, An, dn, rfl, h1, h2, h3, h4⟩
  have H1 := hide h1
  have H2 := hide h2
  have H3 := hide h3
  have H4 := hide h4
  clear h1 h2 h3 h4 H
  go_wp2_with fail
  go_ret
  exact ⟨An, dn, rfl, H3.out, H4.out⟩
end Go.Proofs.YtbjbcfiieacamaaGreatDoor
