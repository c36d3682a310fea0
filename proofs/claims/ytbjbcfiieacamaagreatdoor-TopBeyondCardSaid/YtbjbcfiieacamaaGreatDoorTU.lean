import Derived.Test.YtbjbcfiieacamaaGreatDoorTX
namespace Go.Proofs.YtbjbcfiieacamaaGreatDoor
open Go.RowKit
set_option linter.unusedVariables false

theorem own_fresh {w : World} {base b off n c : Nat} {e : TypeId} {size : Nat} {cs : List Value} (h : w.ownsRow base e size (.slice (some ⟨b, off, none⟩) n c) n cs) : base ≤ b := by
  rcases h.2 with ⟨h1, _⟩ | ⟨g, cap, cur, h1, h2, _⟩
  · cases h1
  · injection h1 with h1
    injection h1 with h1
    injection h1 with h1
    omega
/-- A list lies where it lay, while its block is as it was. -/
theorem Rd.stay {w w' : World} {b off n cap size : Nat} {cs : List Value} (h : Rd w (.slice (some ⟨b, off, none⟩) n cap) size n cs) (hs : w.heap.size ≤ w'.heap.size) (hk : b < w.heap.size → w'.heap[b]? = w.heap[b]?) : Rd w' (.slice (some ⟨b, off, none⟩) n cap) size n cs := by
  obtain ⟨A', c', e, h1, h2, h3, h4⟩ := h
  injection e with e1 e2 e3
  subst e1
  subst e3
  refine ⟨_, _, rfl, h1, h2, h3, fun hn => ?_⟩
  obtain ⟨b', off', e, hl, hc⟩ := h4 hn
  injection e with e
  injection e with e1 e2
  subst e1
  subst e2
  refine ⟨_, _, rfl, Nat.lt_of_lt_of_le hl hs, fun j u hu => ?_⟩
  rw [← hc j u hu]
  simp only [World.cell?, hk hl]
theorem Blk.newAt {W : World} {B : Nat} (h : B = W.heap.size) (t : TypeId) (cs : Array Value) : Blk (W.alloc (.cells cs t)) B t cs := by subst h; exact Blk.new W t cs


set_option linter.unusedSimpArgs false

/-- What Cut hands back. -/
def CutOk (w : World) (e : Ending) (w' : World) : Prop := ∃ Ah ch ba oa ca Ar cr, e = .returned (.tuple #[.agg #[.string ⟨#[120]⟩, .bool false, .int .i64 1, .slice Ah 1 ch], .int .i64 0]) ∧ Rd w' (.slice Ah 1 ch) 2 1 [.slice (some ⟨ba, oa, none⟩) 2 ca, .slice Ar 1 cr] ∧ Rd w' (.slice (some ⟨ba, oa, none⟩) 2 ca) 1 2 [.int .i64 0, .int .i64 0] ∧ Rd w' (.slice Ar 1 cr) 3 1 rowL ∧ Below w.heap.size w w' ∧ (∀ b o, Ah = some ⟨b, o, none⟩ → w.heap.size ≤ b) ∧ w.heap.size ≤ ba ∧ (∀ b o, Ar = some ⟨b, o, none⟩ → w.heap.size ≤ b)

set_option maxRecDepth 100000 in
set_option maxHeartbeats 800000 in
theorem cut14 (A : Option Addr) (c : Nat) (B : Option Addr) (d : Nat) (w : World) (hr : Rd w (.slice A 1 c) 3 1 rowL) (hs : Rd w (.slice B 1 d) 2 1 [.int .i64 0, .int .i64 1]) :
    Calls Tryz.prog 14 #[.string ⟨#[120]⟩, .agg #[.int .i64 1, .slice A 1 c], .slice B 1 d, .bool false] w (CutOk w) := by
  have HR := hide hr
  have HS := hide hs
  obtain ⟨b, off, rfl, hb, hcb⟩ := hs.at (by omega)
  have s0 : w.cell? ⟨b, off, none⟩ = some (.int .i64 0) := hcb 0 _ rfl
  have s1 : w.cell? ⟨b, off + 1, none⟩ = some (.int .i64 1) := hcb 1 _ rfl
  clear hcb hs hr
  have hmk := make22_2
  go_enter Tryz.func14, Tryz.ntmps14
  go_wp2_with fail
  refine (named13 _).mono ?_
  rintro e w' ⟨rfl, rfl⟩
  go_wp2_with fail
  refine (check25 _ _ _ ((HR.out.alloc _).alloc _)).mono ?_
  rintro e w1 ⟨rfl, hb1⟩
  have HT := hide (((Blk.new w 37 #[.int .i64 1, .slice A 1 c]).alloc (.cells #[.string ⟨#[]⟩, .bool false, .int .i64 0, .slice none 0 0] 30)).below hb1 (by simp; omega))
  have HO := hide ((Blk.new (w.alloc (.cells #[.int .i64 1, .slice A 1 c] 37)) 30 #[.string ⟨#[]⟩, .bool false, .int .i64 0, .slice none 0 0]).below hb1 (by simp))
  have HB := hide ((((Below.refl w.heap.size w).alloc (Nat.le_refl _) (.cells #[.int .i64 1, .slice A 1 c] 37)).alloc (by simp) (.cells #[.string ⟨#[]⟩, .bool false, .int .i64 0, .slice none 0 0] 30)).trans (hb1.mono (by simp; omega)))
  rw [show (w.alloc (.cells #[.int .i64 1, .slice A 1 c] 37)).heap.size = w.heap.size + 1 by simp] at HO
  obtain ⟨O, hO⟩ : ∃ O, O = w.heap.size + 1 := ⟨_, rfl⟩
  obtain ⟨T, hT⟩ : ∃ T, T = w.heap.size := ⟨_, rfl⟩
  rw [← hO] at HO ⊢
  rw [← hT] at HT ⊢
  have hwT : w.heap.size ≤ T := by omega
  have hwO : w.heap.size ≤ O := by omega
  have HR1 := hide (HR.out.below HB.out (Nat.le_refl _))
  have HS1 := hide (HS.out.below HB.out (Nat.le_refl _))
  have x0 : w1.cell? ⟨b, off, none⟩ = some (.int .i64 0) := (HB.out.cell (p := ⟨b, off, none⟩) hb).trans s0
  have x1 : w1.cell? ⟨b, off + 1, none⟩ = some (.int .i64 1) := (HB.out.cell (p := ⟨b, off + 1, none⟩) hb).trans s1
  have hb1' : b < w1.heap.size := Nat.lt_of_lt_of_le hb HB.out.size
  have t0 : w1.cell? ⟨T, 0, none⟩ = some (.int .i64 1) := HT.out.cell 0
  have t1 : w1.cell? ⟨T, 1, none⟩ = some (.slice A 1 c) := HT.out.cell 1
  clear hT hO hb1 s0 s1 hb
  go_wp2_with fail
  refine (ordered26 _ _ _ HS1.out).mono ?_
  rintro e w2 ⟨rfl, hb2⟩
  have HT2 := hide (HT.out.below hb2 HT.out.lt)
  have HO2 := hide (HO.out.below hb2 HO.out.lt)
  have HB2 := hide (HB.out.trans (hb2.mono HB.out.size))
  have HR2 := hide (HR1.out.below hb2 (Nat.le_refl _))
  have y0 : w2.cell? ⟨b, off, none⟩ = some (.int .i64 0) := (hb2.cell (p := ⟨b, off, none⟩) hb1').trans x0
  have y1 : w2.cell? ⟨b, off + 1, none⟩ = some (.int .i64 1) := (hb2.cell (p := ⟨b, off + 1, none⟩) hb1').trans x1
  have hb2' : b < w2.heap.size := Nat.lt_of_lt_of_le hb1' hb2.size
  have u0 : w2.cell? ⟨T, 0, none⟩ = some (.int .i64 1) := HT2.out.cell 0
  have u1 : w2.cell? ⟨T, 1, none⟩ = some (.slice A 1 c) := HT2.out.cell 1
  have lT2 := HT2.out.lt
  have lO2 := HO2.out.lt
  clear hb2 x0 x1 hb1' t0 t1 HT HO HB HR1 HS1 HS HR
  have k1 : b < w2.heap.size + 1 := by omega
  have k2 : b < w2.heap.size + 1 + 1 := by omega
  have k3 : b < w2.heap.size + 1 + 1 + 1 := by omega
  go_wp2_with fail
  refine wp_loop_rounds 2 ?_
  rw [rounds_succ]
  go_wp2_with fail
  have lw2 : w.heap.size ≤ w2.heap.size := HB2.out.size
  obtain ⟨w3, hw3⟩ : ∃ w3, w3 = ((((w2.alloc (.cells #[.string ⟨#[120]⟩, .bool false, .int .i64 1, .slice none 0 0] 30)).alloc (.cells #[.int .i64 0, .int .i64 0] 3)).alloc (.cells #[.slice (some ⟨w2.heap.size + 1, 0, none⟩) 2 2] 22)).alloc (.cells #[.int .i64 0] 3)).alloc (.cells #[.int .i64 0, .int .i64 1] 49) := ⟨_, rfl⟩
  rw [← hw3]
  have sz3 : w3.heap.size = w2.heap.size + 1 + 1 + 1 + 1 + 1 := by rw [hw3]; simp
  have HH3 := hide (show Blk w3 w2.heap.size 30 #[.string ⟨#[120]⟩, .bool false, .int .i64 1, .slice none 0 0] by rw [hw3]; exact ((((Blk.new _ _ _).alloc _).alloc _).alloc _).alloc _)
  have HD3 := hide (show Blk w3 (w2.heap.size + 1) 3 #[.int .i64 0, .int .i64 0] by rw [hw3]; exact (((Blk.newAt (by simp) _ _).alloc _).alloc _).alloc _)
  have HP3 := hide (show Blk w3 (w2.heap.size + 1 + 1) 22 #[.slice (some ⟨w2.heap.size + 1, 0, none⟩) 2 2] by rw [hw3]; exact ((Blk.newAt (by simp) _ _).alloc _).alloc _)
  have HN3 := hide (show Blk w3 (w2.heap.size + 1 + 1 + 1) 3 #[.int .i64 0] by rw [hw3]; exact (Blk.newAt (by simp) _ _).alloc _)
  have HG3 := hide (show Blk w3 (w2.heap.size + 1 + 1 + 1 + 1) 49 #[.int .i64 0, .int .i64 1] by rw [hw3]; exact Blk.newAt (by simp) _ _)
  have B23 := hide (show Below w2.heap.size w2 w3 by rw [hw3]; exact (((((Below.refl _ _).alloc (Nat.le_refl _) _).alloc (by simp) _).alloc (by simp; omega) _).alloc (by simp; omega) _).alloc (by simp; omega) _)
  obtain ⟨G, hG⟩ : ∃ G, G = w2.heap.size + 1 + 1 + 1 + 1 := ⟨_, rfl⟩
  obtain ⟨N, hN⟩ : ∃ N, N = w2.heap.size + 1 + 1 + 1 := ⟨_, rfl⟩
  obtain ⟨P, hP⟩ : ∃ P, P = w2.heap.size + 1 + 1 := ⟨_, rfl⟩
  obtain ⟨D, hD⟩ : ∃ D, D = w2.heap.size + 1 := ⟨_, rfl⟩
  obtain ⟨H, hH⟩ : ∃ H, H = w2.heap.size := ⟨_, rfl⟩
  rw [← hG] at HG3 ⊢
  rw [← hN] at HN3 ⊢
  rw [← hP] at HP3 ⊢
  rw [← hD] at HD3 HP3 ⊢
  rw [← hH] at HH3 ⊢
  have o1 : w2.heap.size ≤ H := by omega
  have o2 : H < D := by omega
  have o3 : D < P := by omega
  have o4 : P < N := by omega
  have o5 : N < G := by omega
  have o6 : G < w3.heap.size := by omega
  clear hG hN hP hD hH sz3 hw3 hmk
  have HT3 := hide (HT2.out.below B23.out lT2)
  have HO3 := hide (HO2.out.below B23.out lO2)
  have HR3 := hide (HR2.out.below B23.out (Nat.le_refl _))
  refine (cut27_0 T N P D A c w3 HT3.out HN3.out HP3.out HD3.out HR3.out).mono ?_
  rintro e w4 ⟨rfl, hsz, hkp, hN4, hD4, hbl⟩
  have B24 := hide (B23.out.trans ((hbl w2.heap.size (by omega) (by omega) (by omega))))
  have HT4 := hide (show Blk w4 T 37 _ from (hkp T (by omega) (by omega) (by omega)).trans HT3.out)
  have HO4 := hide (show Blk w4 O 30 _ from (hkp O (by omega) (by omega) (by omega)).trans HO3.out)
  have HH4 := hide (show Blk w4 H 30 _ from (hkp H (by omega) (by omega) (by omega)).trans HH3.out)
  have HP4 := hide (show Blk w4 P 22 _ from (hkp P (by omega) (by omega) (by omega)).trans HP3.out)
  have HG4 := hide (show Blk w4 G 49 _ from (hkp G (by omega) (by omega) (by omega)).trans HG3.out)
  have HR4 := hide (HR2.out.below B24.out (Nat.le_refl _))
  have HN4 := hide hN4
  have HD4 := hide hD4
  have o7 : G < w4.heap.size := by omega
  clear hsz hkp hN4 hD4 hbl HT3 HO3 HH3 HP3 HG3 HR3 HN3 HD3 B23 o6 y0 y1 u0 u1 hb2' k1 k2 k3 HT2 HO2
  have hcap : 1 ≤ c := HR4.out.len.1
  obtain ⟨rb, ro, rfl, lrb, _⟩ := HR2.out.at (by omega)
  have k0 : (0 : Int) ≤ (c : Int) := by omega
  have k1 : (1 : Int) ≤ (c : Int) := by omega
  have v0 : w4.cell? ⟨H, 3, none⟩ = some (.slice none 0 0) := HH4.out.cell 3
  have v1 : w4.cell? ⟨P, 0, none⟩ = some (.slice (some ⟨D, 0, none⟩) 2 2) := HP4.out.cell 0
  have v2 : w4.cell? ⟨T, 1, none⟩ = some (.slice (some ⟨rb, ro, none⟩) 1 c) := HT4.out.cell 1
  have v3 : w4.cell? ⟨G, 0, none⟩ = some (.int .i64 0) := HG4.out.cell 0
  have v4 : w4.cell? ⟨G, 1, none⟩ = some (.int .i64 1) := HG4.out.cell 1
  have SS := hide (show ∀ X, Below w4.heap.size w4 X → (fun X => Below w4.heap.size w4 X ∧ X.cell? ⟨H, 3, none⟩ = some (.slice none 0 0) ∧ X.cell? ⟨P, 0, none⟩ = some (.slice (some ⟨D, 0, none⟩) 2 2) ∧ X.cell? ⟨T, 1, none⟩ = some (.slice (some ⟨rb, ro, none⟩) 1 c) ∧ X.cell? ⟨G, 0, none⟩ = some (.int .i64 0) ∧ X.cell? ⟨G, 1, none⟩ = some (.int .i64 1)) X from fun X hX => ⟨hX, (hX.cell (p := ⟨H, 3, none⟩) (show H < _ by omega)).trans v0, (hX.cell (p := ⟨P, 0, none⟩) (show P < _ by omega)).trans v1, (hX.cell (p := ⟨T, 1, none⟩) (show T < _ by omega)).trans v2, (hX.cell (p := ⟨G, 0, none⟩) (show G < _ by omega)).trans v3, (hX.cell (p := ⟨G, 1, none⟩) (show G < _ by omega)).trans v4⟩)
  go_wp2_with fail
  clear v0 v1 v2 v3 v4
  refine AnyBut.region (fun X => Below w4.heap.size w4 X ∧ X.cell? ⟨H, 3, none⟩ = some (.slice none 0 0) ∧ X.cell? ⟨P, 0, none⟩ = some (.slice (some ⟨D, 0, none⟩) 2 2) ∧ X.cell? ⟨T, 1, none⟩ = some (.slice (some ⟨rb, ro, none⟩) 1 c) ∧ X.cell? ⟨G, 0, none⟩ = some (.int .i64 0) ∧ X.cell? ⟨G, 1, none⟩ = some (.int .i64 1)) 16 (by kernel_rfl) ?_
  have hS0 := SS.out w4.drew (Below.refl _ _).drew
  refine AnyBut.take 0 (.pointer (some ⟨H, 3, none⟩)) rfl (by kernel_rfl) (by kernel_rfl) (by decide) (by kernel_rfl) (by kernel_rfl) (fun _ _ _ h => h) (by rfl) (fun x hx => ?_) hS0 ?_
  · obtain ⟨q0, q1, q2, q3, q4, q5⟩ := hx
    go_simp
  try simp only [Act.put, List.setIfInBounds_toArray, List.set_cons_zero, List.set_cons_succ]
  refine AnyBut.take 1 (.slice none 0 0) rfl (by kernel_rfl) (by kernel_rfl) (by decide) (by kernel_rfl) (by kernel_rfl) (fun _ _ _ h => h) (by rfl) (fun x hx => ?_) hS0 ?_
  · obtain ⟨q0, q1, q2, q3, q4, q5⟩ := hx
    go_simp
  try simp only [Act.put, List.setIfInBounds_toArray, List.set_cons_zero, List.set_cons_succ]
  refine AnyBut.take 2 (.slice (some ⟨D, 0, none⟩) 2 2) rfl (by kernel_rfl) (by kernel_rfl) (by decide) (by kernel_rfl) (by kernel_rfl) (fun _ _ _ h => h) (by rfl) (fun x hx => ?_) hS0 ?_
  · obtain ⟨q0, q1, q2, q3, q4, q5⟩ := hx
    go_simp
  try simp only [Act.put, List.setIfInBounds_toArray, List.set_cons_zero, List.set_cons_succ]
  refine AnyBut.take 4 (.pointer (some ⟨T, 1, none⟩)) rfl (by kernel_rfl) (by kernel_rfl) (by decide) (by kernel_rfl) (by kernel_rfl) (fun _ _ _ h => h) (by rfl) (fun x hx => ?_) hS0 ?_
  · obtain ⟨q0, q1, q2, q3, q4, q5⟩ := hx
    go_simp
  try simp only [Act.put, List.setIfInBounds_toArray, List.set_cons_zero, List.set_cons_succ]
  refine AnyBut.take 5 (.slice (some ⟨rb, ro, none⟩) 1 c) rfl (by kernel_rfl) (by kernel_rfl) (by decide) (by kernel_rfl) (by kernel_rfl) (fun _ _ _ h => h) (by rfl) (fun x hx => ?_) hS0 ?_
  · obtain ⟨q0, q1, q2, q3, q4, q5⟩ := hx
    go_simp
  try simp only [Act.put, List.setIfInBounds_toArray, List.set_cons_zero, List.set_cons_succ]
  refine AnyBut.take 6 (.pointer (some ⟨G, 0, none⟩)) rfl (by kernel_rfl) (by kernel_rfl) (by decide) (by kernel_rfl) (by kernel_rfl) (fun _ _ _ h => h) (by rfl) (fun x hx => ?_) hS0 ?_
  · obtain ⟨q0, q1, q2, q3, q4, q5⟩ := hx
    go_simp
  try simp only [Act.put, List.setIfInBounds_toArray, List.set_cons_zero, List.set_cons_succ]
  refine AnyBut.take 7 (.int .i64 0) rfl (by kernel_rfl) (by kernel_rfl) (by decide) (by kernel_rfl) (by kernel_rfl) (fun _ _ _ h => h) (by rfl) (fun x hx => ?_) hS0 ?_
  · obtain ⟨q0, q1, q2, q3, q4, q5⟩ := hx
    go_simp
  try simp only [Act.put, List.setIfInBounds_toArray, List.set_cons_zero, List.set_cons_succ]
  refine AnyBut.take 8 (.pointer (some ⟨G, 1, none⟩)) rfl (by kernel_rfl) (by kernel_rfl) (by decide) (by kernel_rfl) (by kernel_rfl) (fun _ _ _ h => h) (by rfl) (fun x hx => ?_) hS0 ?_
  · obtain ⟨q0, q1, q2, q3, q4, q5⟩ := hx
    go_simp
  try simp only [Act.put, List.setIfInBounds_toArray, List.set_cons_zero, List.set_cons_succ]
  refine AnyBut.take 9 (.int .i64 1) rfl (by kernel_rfl) (by kernel_rfl) (by decide) (by kernel_rfl) (by kernel_rfl) (fun _ _ _ h => h) (by rfl) (fun x hx => ?_) hS0 ?_
  · obtain ⟨q0, q1, q2, q3, q4, q5⟩ := hx
    go_simp
  try simp only [Act.put, List.setIfInBounds_toArray, List.set_cons_zero, List.set_cons_succ]
  refine AnyBut.take 10 (.slice (some ⟨rb, ro, none⟩) 1 c) rfl (by kernel_rfl) (by kernel_rfl) (by decide) (by kernel_rfl) (by kernel_rfl) (fun _ _ _ h => h) (by rfl) (fun x hx => ?_) hS0 ?_
  · obtain ⟨q0, q1, q2, q3, q4, q5⟩ := hx
    go_simp
  try simp only [Act.put, List.setIfInBounds_toArray, List.set_cons_zero, List.set_cons_succ]
  refine AnyBut.only 3 (o := { dst := some 58, op := .call { callee := .value (.func 29), args := #[.tmp 57], argTypes := #[22] }, type := 22, pos := "combined.go:207", after := #[{ on := 2, ground := .data }], guard := none }) (by kernel_rfl) rfl (fun K hK => ?_)
  rw [if_pos (by rfl)]
  go_simp
  refine (Tryz.slices_Clone_int D 0 2 2 [0, 0] w4.drew (by decide) (by decide) (fun j hj => ?_)).mono ?_
  · have h2 : j = 0 ∨ j = 1 := by simp at hj; omega
    rcases h2 with rfl | rfl
    · exact HD4.out.cell 0
    · exact HD4.out.cell 1
  rintro e w5 ⟨v', rfl, hown, hnil, hb5⟩
  obtain ⟨A5, c5, rfl, h51, h52, h53, h54⟩ := Rd.of_own hown
  obtain ⟨ab, ao, rfl, lab, _⟩ := h54 (by omega)
  have fab : w4.heap.size ≤ ab := own_fresh hown
  have HA5 := hide (Rd.of_own hown)
  have B45 : Below w4.heap.size w4 w5 := (Below.refl _ _).drew.trans hb5
  clear hown hnil hb5 h51 h52 h53 h54
  refine hK.out _ _ (fun _ => SS.out _ B45) ?_
  clear hK K
  have hS5 := SS.out _ B45
  try simp only [Act.put, List.setIfInBounds_toArray, List.set_cons_zero, List.set_cons_succ]
  refine AnyBut.only 11 (o := { dst := some 66, op := .call { callee := .value (.func 30), args := #[.tmp 65], argTypes := #[35] }, type := 35, pos := "combined.go:207", after := #[{ on := 10, ground := .data }, { on := 3, ground := .chain }], guard := none }) (by kernel_rfl) rfl (fun K hK => ?_)
  rw [if_pos (by rfl)]
  go_simp
  refine (clone30 _ _ _ ((HR4.out.below B45 (Nat.le_refl _)))).mono ?_
  rintro e w6 ⟨Ar, cr, rfl, hrr, hb6, hfr⟩
  have lab6 : ab < w6.heap.size := Nat.lt_of_lt_of_le lab hb6.size
  obtain ⟨xb, xo, rfl, lxb, _⟩ := hrr.at (by omega)
  have fxb : w4.heap.size ≤ xb := Nat.le_trans B45.size (hfr xb xo rfl)
  clear hfr
  have HRR := hide hrr
  have B46 : Below w4.heap.size w4 w6 := B45.trans (hb6.mono B45.size)
  have HA6 := hide (HA5.out.below hb6 (Nat.le_refl _))
  clear hrr hb6 B45 HA5 hS5
  refine hK.out _ _ (fun _ => SS.out _ B46) ?_
  clear hK K
  have hS6 := SS.out _ B46
  try simp only [Act.put, List.setIfInBounds_toArray, List.set_cons_zero, List.set_cons_succ]
  refine AnyBut.take 12 (.agg #[.slice (some ⟨ab, ao, none⟩) 2 c5, .slice (some ⟨xb, xo, none⟩) 1 cr]) rfl (by kernel_rfl) (by kernel_rfl) (by decide) (by kernel_rfl) (by kernel_rfl) (fun _ _ _ h => h) (by rfl) (fun x hx => ?_) hS6 ?_
  · obtain ⟨q0, q1, q2, q3, q4, q5⟩ := hx
    go_simp
  try simp only [Act.put, List.setIfInBounds_toArray, List.set_cons_zero, List.set_cons_succ]
  refine AnyBut.only 13 (o := { dst := some 68, op := .buildSlice 28 1 #[(0, .tmp 67)], type := 28, pos := "combined.go:207", after := #[{ on := 12, ground := .data }], guard := none }) (by kernel_rfl) rfl (fun K hK => ?_)
  rw [if_pos (by rfl)]
  go_simp
  have B46a := hide (B46.alloc B46.size (.cells #[.slice (some ⟨ab, ao, none⟩) 2 c5, .slice (some ⟨xb, xo, none⟩) 1 cr] 81))
  refine hK.out _ _ (fun _ => SS.out _ B46a.out) ?_
  clear hK K
  have hS7 := SS.out _ B46a.out
  try simp only [Act.put, List.setIfInBounds_toArray, List.set_cons_zero, List.set_cons_succ]
  have hcp : ¬ 281474976710656 < Builtin.nextslicecap 1 0 * Tryz.t81.bytes := of_decide_eq_false (by kernel_rfl)
  refine AnyBut.only 14 (o := { dst := some 69, op := .call { callee := .builtin .append, args := #[.tmp 56, .tmp 68], argTypes := #[28, 28] }, type := 28, pos := "combined.go:207", after := #[{ on := 1, ground := .data }, { on := 13, ground := .data }, { on := 11, ground := .chain }], guard := none }) (by kernel_rfl) rfl (fun K hK => ?_)
  rw [if_pos (by rfl)]
  go_simp
  obtain ⟨cp, hcd⟩ : ∃ cp, cp = (Question.appendCap 1 0 81).cut (w6.tape w6.drawn (Question.appendCap 1 0 81)) := ⟨_, rfl⟩
  have c1 : 1 ≤ cp := by rw [hcd]; exact grownCap_ge w6 1 0 81
  have c2 : cp ≤ maxLen := by rw [hcd]; exact grownCap_le_maxLen w6 1 0 81 (by decide)
  rw [← hcd]
  clear hcd hcp
  obtain ⟨w7, hw7⟩ : ∃ w7, w7 = ((w6.alloc (.cells #[.slice (some ⟨ab, ao, none⟩) 2 c5, .slice (some ⟨xb, xo, none⟩) 1 cr] 81)).alloc (.cells (#[.slice (some ⟨ab, ao, none⟩) 2 c5, .slice (some ⟨xb, xo, none⟩) 1 cr] ++ Builtin.zeroCells #[.slice none 0 0, .slice none 0 0] (cp - 1)) 81)).drew := ⟨_, rfl⟩
  rw [← hw7]
  have HU7 := hide (show Rd w7 (.slice (some ⟨w6.heap.size + 1, 0, none⟩) 1 cp) 2 1 [.slice (some ⟨ab, ao, none⟩) 2 c5, .slice (some ⟨xb, xo, none⟩) 1 cr] by
    rw [hw7]; exact Rd.drewN (Rd.grown (news := #[.slice (some ⟨ab, ao, none⟩) 2 c5, .slice (some ⟨xb, xo, none⟩) 1 cr]) (by simp) rfl c1 c2) 1)
  have B67 := hide (show Below w6.heap.size w6 w7 by rw [hw7]; exact below_drewN (((Below.refl _ _).alloc (Nat.le_refl _) _).alloc (by simp) _) 1)
  have s67 : w6.heap.size + 1 < w7.heap.size := by rw [hw7]; simp
  obtain ⟨U, hU⟩ : ∃ U, U = w6.heap.size + 1 := ⟨_, rfl⟩
  rw [← hU] at HU7 s67 ⊢
  have fU : w6.heap.size < U := by omega
  have s46 := B46.size
  clear hw7 hU
  have B47 := hide (B46.trans (B67.out.mono B46.size))
  have HA7 := hide (HA6.out.below B67.out (Nat.le_refl _))
  have HX7 := hide (HRR.out.below B67.out (Nat.le_refl _))
  have HT7 := hide (HT4.out.below B47.out HT4.out.lt)
  have HO7 := hide (HO4.out.below B47.out HO4.out.lt)
  have HH7 := hide (HH4.out.below B47.out HH4.out.lt)
  have HP7 := hide (HP4.out.below B47.out HP4.out.lt)
  have HG7 := hide (HG4.out.below B47.out HG4.out.lt)
  have HN7 := hide (HN4.out.below B47.out HN4.out.lt)
  have HD7 := hide (HD4.out.below B47.out HD4.out.lt)
  have HR7 := hide (HR4.out.below B47.out (Nat.le_refl _))
  refine hK.out _ _ (fun _ => SS.out _ B47.out) ?_
  clear hK K
  have hS8 := SS.out _ B47.out
  try simp only [Act.put, List.setIfInBounds_toArray, List.set_cons_zero, List.set_cons_succ]
  refine AnyBut.take 15 (.pointer (some ⟨H, 3, none⟩)) rfl (by kernel_rfl) (by kernel_rfl) (by decide) (by kernel_rfl) (by kernel_rfl) (fun _ _ _ h => h) (by rfl) (fun x hx => ?_) hS8 ?_
  · obtain ⟨q0, q1, q2, q3, q4, q5⟩ := hx
    go_simp
  try simp only [Act.put, List.setIfInBounds_toArray, List.set_cons_zero, List.set_cons_succ]
  have z3 : w7.cell? ⟨H, 3, none⟩ = some (.slice none 0 0) := HH7.out.cell 3
  have zf := HH7.out.frozen 3
  refine AnyBut.only 16 (o := { dst := none, op := .store 28 (.tmp 70) (.tmp 69), type := 0, pos := "combined.go:207", after := #[{ on := 15, ground := .data }, { on := 14, ground := .data }, { on := 14, ground := .chain }, { on := 0, ground := .phase }, { on := 1, ground := .phase }, { on := 2, ground := .phase }, { on := 3, ground := .phase }, { on := 4, ground := .phase }, { on := 5, ground := .phase }, { on := 6, ground := .phase }, { on := 7, ground := .phase }, { on := 8, ground := .phase }, { on := 9, ground := .phase }, { on := 10, ground := .phase }, { on := 11, ground := .phase }, { on := 12, ground := .phase }, { on := 13, ground := .phase }, { on := 14, ground := .phase }], guard := none }) (by kernel_rfl) rfl (fun K hK => ?_)
  rw [if_pos (by rfl)]
  go_simp
  refine hK.out _ _ (fun h => absurd rfl h) ?_
  refine AnyBut.done (by kernel_rfl) ?_
  obtain ⟨w8, hw8⟩ : ∃ w8, w8 = w7.setCell ⟨H, 3, none⟩ (.slice (some ⟨U, 0, none⟩) 1 cp) := ⟨_, rfl⟩
  rw [← hw8]
  have s8 : w8.heap.size = w7.heap.size := by rw [hw8]; simp [World.setCell]
  have k8 : ∀ g, g ≠ H → w8.heap[g]? = w7.heap[g]? := fun g hg => by rw [hw8]; exact Below.heap_setCell w7 ⟨H, 3, none⟩ _ g hg
  have HH8 := hide (show Blk w8 H 30 #[.string ⟨#[120]⟩, .bool false, .int .i64 1, .slice (some ⟨U, 0, none⟩) 1 cp] by rw [hw8]; exact HH7.out.set_ 3 _)
  have HT8 := hide (show Blk w8 T 37 _ from (k8 T (by omega)).trans HT7.out)
  have HO8 := hide (show Blk w8 O 30 _ from (k8 O (by omega)).trans HO7.out)
  have HP8 := hide (show Blk w8 P 22 _ from (k8 P (by omega)).trans HP7.out)
  have HG8 := hide (show Blk w8 G 49 _ from (k8 G (by omega)).trans HG7.out)
  have HN8 := hide (show Blk w8 N 3 _ from (k8 N (by omega)).trans HN7.out)
  have HD8 := hide (show Blk w8 D 3 _ from (k8 D (by omega)).trans HD7.out)
  have HR8 := hide (HR7.out.stay (Nat.le_of_eq s8.symm) (fun _ => k8 rb (by omega)))
  have HA8 := hide (HA7.out.stay (Nat.le_of_eq s8.symm) (fun _ => k8 ab (by omega)))
  have HX8 := hide (HX7.out.stay (Nat.le_of_eq s8.symm) (fun _ => k8 xb (by omega)))
  have HU8 := hide (HU7.out.stay (Nat.le_of_eq s8.symm) (fun _ => k8 U (by omega)))
  have B28 := hide (show Below w2.heap.size w2 w8 by rw [hw8]; exact ((B24.out.trans (B47.out.mono B24.out.size)).setCell (p := ⟨H, 3, none⟩) o1 _))
  have g8 : G < w8.heap.size := by omega
  have a8 : ab < w8.heap.size := by omega
  have x8 : xb < w8.heap.size := by omega
  have u8 : U < w8.heap.size := by omega
  have e1 : G < ab := by omega
  have e2 : G < xb := by omega
  have e3 : G < U := by omega
  clear s8 k8 hw8 z3 zf hS8 s67 s46 fU HA7 HX7 HT7 HO7 HH7 HP7 HG7 HN7 HD7 HR7 HU7 B67 B47 HA6 HRR B46 B46a SS hS0 hS6 hS7 HT4 HO4 HH4 HP4 HG4 HR4 HN4 HD4 B24 o7 fab fxb lab lab6 lxb
  have g0 : w8.cell? ⟨G, 0, none⟩ = some (.int .i64 0) := HG8.out.cell 0
  have g1 : w8.cell? ⟨G, 1, none⟩ = some (.int .i64 1) := HG8.out.cell 1
  go_wp2_with fail
  refine (cut27_1 T N P D _ c w8 HT8.out HN8.out HP8.out HD8.out HR8.out).mono ?_
  rintro e w9 ⟨rfl, hsz, hkp, hN9, hD9, hbl⟩
  have HH9 := hide (show Blk w9 H 30 _ from (hkp H (by omega) (by omega) (by omega)).trans HH8.out)
  have HO9 := hide (show Blk w9 O 30 _ from (hkp O (by omega) (by omega) (by omega)).trans HO8.out)
  have HA9 := hide (HA8.out.stay hsz (fun _ => hkp ab (by omega) (by omega) (by omega)))
  have HX9 := hide (HX8.out.stay hsz (fun _ => hkp xb (by omega) (by omega) (by omega)))
  have HU9 := hide (HU8.out.stay hsz (fun _ => hkp U (by omega) (by omega) (by omega)))
  have B29 := hide (B28.out.trans (hbl w2.heap.size (by omega) (by omega) B28.out.size))
  have f0 : w9.cell? ⟨H, 0, none⟩ = some (.string ⟨#[120]⟩) := HH9.out.cell 0
  have f1 : w9.cell? ⟨H, 1, none⟩ = some (.bool false) := HH9.out.cell 1
  have f2 : w9.cell? ⟨H, 2, none⟩ = some (.int .i64 1) := HH9.out.cell 2
  have f3 : w9.cell? ⟨H, 3, none⟩ = some (.slice (some ⟨U, 0, none⟩) 1 cp) := HH9.out.cell 3
  clear hsz hkp hN9 hD9 hbl HT8 HO8 HP8 HG8 HN8 HD8 HR8 HA8 HX8 HU8 B28 HH8 g0 g1
  go_wp2_with fail
  rw [rounds_succ]
  go_wp2_with fail
  refine (check31 _ cp ab ao c5 _ cr w9 HU9.out HA9.out HX9.out).mono ?_
  rintro e w10 ⟨rfl, hb10⟩
  have HH10 := HH9.out.below hb10 HH9.out.lt
  have HO10 := HO9.out.below hb10 HO9.out.lt
  have hho : H ≠ O := by omega
  have hoh : O ≠ H := by omega
  have HUA := hide (HU9.out.below hb10 (Nat.le_refl _))
  have HAA := hide (HA9.out.below hb10 (Nat.le_refl _))
  have HXA := hide (HX9.out.below hb10 (Nat.le_refl _))
  have BAA := hide (HB2.out.trans ((B29.out.mono lw2).trans (hb10.mono (Nat.le_trans lw2 B29.out.size))))
  have j0 : w10.cell? ⟨H, 0, none⟩ = some (.string ⟨#[120]⟩) := HH10.cell 0
  have j1 : w10.cell? ⟨H, 1, none⟩ = some (.bool false) := HH10.cell 1
  have j2 : w10.cell? ⟨H, 2, none⟩ = some (.int .i64 1) := HH10.cell 2
  have j3 : w10.cell? ⟨H, 3, none⟩ = some (.slice (some ⟨U, 0, none⟩) 1 cp) := HH10.cell 3
  have i0 : w10.cell? ⟨O, 0, none⟩ = some (.string ⟨#[]⟩) := HO10.cell 0
  have i1 : w10.cell? ⟨O, 1, none⟩ = some (.bool false) := HO10.cell 1
  have i2 : w10.cell? ⟨O, 2, none⟩ = some (.int .i64 0) := HO10.cell 2
  have i3 : w10.cell? ⟨O, 3, none⟩ = some (.slice none 0 0) := HO10.cell 3
  have l0 := HO10.frozen 0
  have l1 := HO10.frozen 1
  have l2 := HO10.frozen 2
  have l3 := HO10.frozen 3
  have HOX := hide HO10
  clear hb10 HH10 HO10 HU9 HA9 HX9 B29 HB2 HO9 HH9 f0 f1 f2 f3
  go_wp2_with fail
  obtain ⟨wF, hF⟩ : ∃ wF, wF = ((((w10.setCell ⟨O, 0, none⟩ (.string ⟨#[120]⟩)).setCell ⟨O, 1, none⟩ (.bool false)).setCell ⟨O, 2, none⟩ (.int .i64 1)).setCell ⟨O, 3, none⟩ (.slice (some ⟨U, 0, none⟩) 1 cp)) := ⟨_, rfl⟩
  rw [← hF]
  have HOF : Blk wF O 30 #[.string ⟨#[120]⟩, .bool false, .int .i64 1, .slice (some ⟨U, 0, none⟩) 1 cp] := by rw [hF]; exact (((HOX.out.set_ 0 _).set_ 1 _).set_ 2 _).set_ 3 _
  have sF : w10.heap.size ≤ wF.heap.size := by rw [hF]; simp [World.setCell]
  have kF : ∀ g, g ≠ O → wF.heap[g]? = w10.heap[g]? := fun g hg => by
    rw [hF, Below.heap_setCell _ ⟨O, 3, none⟩ _ g hg, Below.heap_setCell _ ⟨O, 2, none⟩ _ g hg, Below.heap_setCell _ ⟨O, 1, none⟩ _ g hg, Below.heap_setCell _ ⟨O, 0, none⟩ _ g hg]
  have BF : Below w.heap.size w wF := by
    rw [hF]; exact (((BAA.out.setCell (p := ⟨O, 0, none⟩) hwO _).setCell (p := ⟨O, 1, none⟩) hwO _).setCell (p := ⟨O, 2, none⟩) hwO _).setCell (p := ⟨O, 3, none⟩) hwO _
  have n0 : wF.cell? ⟨O, 0, none⟩ = some (.string ⟨#[120]⟩) := HOF.cell 0
  have n1 : wF.cell? ⟨O, 1, none⟩ = some (.bool false) := HOF.cell 1
  have n2 : wF.cell? ⟨O, 2, none⟩ = some (.int .i64 1) := HOF.cell 2
  have n3 : wF.cell? ⟨O, 3, none⟩ = some (.slice (some ⟨U, 0, none⟩) 1 cp) := HOF.cell 3
  clear hF
  refine bodyPost_ret (v := .tuple #[.agg #[.string ⟨#[120]⟩, .bool false, .int .i64 1, .slice (some ⟨U, 0, none⟩) 1 cp], .int .i64 0]) (by simp [results, Tryz.results14, go_sem, n0, n1, n2, n3]) rfl ⟨some ⟨U, 0, none⟩, cp, ab, ao, c5, some ⟨xb, xo, none⟩, cr, rfl, HUA.out.stay sF (fun _ => kF U (by omega)), HAA.out.stay sF (fun _ => kF ab (by omega)), HXA.out.stay sF (fun _ => kF xb (by omega)), BF, fun b o e => by injection e with e; injection e with e; omega, by omega, fun b o e => by injection e with e; injection e with e; omega⟩
end Go.Proofs.YtbjbcfiieacamaaGreatDoor
