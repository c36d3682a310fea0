import Derived.Test.YtagembkjmnfidaaSpecE
import Derived.Test.YtagembkjmnfidaaSpecB
namespace Go.Proofs.Ml
set_option linter.unusedVariables false

theorem hunksGo_wide (m n ctx : Int) (h0 : 0 ≤ ctx) : ∀ (l : List Chg) (k first : Int) (a z : Chg), 0 ≤ a.o → a.o ≤ z.o + z.ol → a.n ≤ z.n + z.nl → Val false (z.o + z.ol) (z.n + z.nl) l m n → ∀ h ∈ hunksGo m ctx k first a z l, h.off ≤ h.ot ∧ h.nf ≤ h.nt
  | [], k, first, a, z, ha, h1, h2, hv, h, hh => by
    obtain ⟨e1, e2⟩ := hv
    simp only [hunksGo, List.mem_singleton] at hh
    subst hh
    simp only [close]
    omega
  | c :: l, k, first, a, z, ha, h1, h2, hv, h, hh => by
    obtain ⟨e1, e2⟩ := hv
    rw [okC_iff] at e1
    have hle := e2.le
    simp only [hunksGo] at hh
    split at hh
    · rcases List.mem_cons.1 hh with rfl | hh'
      · simp only [close]; omega
      · exact hunksGo_wide m n ctx h0 l _ _ c c (by omega) (by omega) (by omega) e2 h hh'
    · exact hunksGo_wide m n ctx h0 l _ _ a c (by omega) (by omega) (by omega) e2 h hh
theorem hunks_wide {l : List Chg} {m n ctx : Int} (hv : valid l m n = true) (h0 : 0 ≤ ctx) : ∀ h ∈ hunks l m ctx, h.off ≤ h.ot ∧ h.nf ≤ h.nt := by
  cases l with
  | nil => intro h hh; simp [hunks, hunksFrom] at hh
  | cons c l =>
    have hvv := valid_val hv
    have e1 := hvv.1
    rw [okC_iff] at e1
    exact hunksGo_wide m n ctx h0 l _ _ c c (by omega) (by omega) (by omega) hvv.2

/-- What HunkApart has seen behind K hunks; A: the changes so far. -/
def ApInv (s : List Chg) (m n : Int) (G : List Hnk) (K : Nat) (A : Int) : Prop :=
  (K = 0 → A = 0 ∧ Apart s m n true 0 0 0 G) ∧ ∀ K', K = K' + 1 → ∀ h : K' < G.length, A = G[K'].la ∧ Apart s m n false A G[K'].ot G[K'].nt (G.drop (K' + 1))
theorem ApInv.start {s : List Chg} {m n : Int} {G : List Hnk} (h : Apart s m n true 0 0 0 G) : ApInv s m n G 0 0 := ⟨fun _ => ⟨rfl, h⟩, fun _ e => by omega⟩
theorem ApInv.first {s : List Chg} {m n A : Int} {G : List Hnk} (h : ApInv s m n G 0 A) (hK : 0 < G.length) :
    G[0].fi = A ∧ A = 0 ∧ G[0].fi < G[0].la ∧ G[0].la ≤ s.length ∧ 0 ≤ G[0].off ∧ G[0].ot ≤ m ∧ 0 ≤ G[0].nf ∧ G[0].nt ≤ n ∧
      G[0].ot - G[0].off - sumO ((s.drop G[0].fi.toNat).take (G[0].la - G[0].fi).toNat) = G[0].nt - G[0].nf - sumN ((s.drop G[0].fi.toNat).take (G[0].la - G[0].fi).toNat) ∧ ApInv s m n G 1 G[0].la := by
  obtain ⟨rfl, h1⟩ := h.1 rfl
  cases G with
  | nil => simp at hK
  | cons g G =>
    obtain ⟨a1, a2, a3, a4, a5, a6, a7, a8, a9, a10⟩ := h1
    refine ⟨a1, rfl, a2, a3, a4, a5, a6, a7, a9, fun e => by omega, fun K' e hK' => ?_⟩
    obtain rfl : K' = 0 := by omega
    exact ⟨rfl, a10⟩
theorem ApInv.first' {s : List Chg} {m n A : Int} {G : List Hnk} {K : Nat} (h : ApInv s m n G K A) (hK0 : K = 0) (hK : K < G.length) :
    G[K].fi = A ∧ A = 0 ∧ G[K].fi < G[K].la ∧ G[K].la ≤ s.length ∧ 0 ≤ G[K].off ∧ G[K].ot ≤ m ∧ 0 ≤ G[K].nf ∧ G[K].nt ≤ n ∧
      G[K].ot - G[K].off - sumO ((s.drop G[K].fi.toNat).take (G[K].la - G[K].fi).toNat) = G[K].nt - G[K].nf - sumN ((s.drop G[K].fi.toNat).take (G[K].la - G[K].fi).toNat) ∧ ApInv s m n G (K + 1) G[K].la := by
  subst hK0; exact h.first hK
theorem ApInv.next {s : List Chg} {m n A : Int} {G : List Hnk} {K : Nat} (h : ApInv s m n G (K + 1) A) (hK : K + 1 < G.length) :
    G[K + 1].fi = A ∧ A = G[K].la ∧ G[K + 1].fi < G[K + 1].la ∧ G[K + 1].la ≤ s.length ∧ 0 ≤ G[K + 1].off ∧ G[K + 1].ot ≤ m ∧ 0 ≤ G[K + 1].nf ∧ G[K + 1].nt ≤ n ∧
      (G[K].ot < G[K + 1].off ∧ G[K + 1].nf - G[K].nt = G[K + 1].off - G[K].ot) ∧
      G[K + 1].ot - G[K + 1].off - sumO ((s.drop G[K + 1].fi.toNat).take (G[K + 1].la - G[K + 1].fi).toNat) = G[K + 1].nt - G[K + 1].nf - sumN ((s.drop G[K + 1].fi.toNat).take (G[K + 1].la - G[K + 1].fi).toNat) ∧ ApInv s m n G (K + 2) G[K + 1].la := by
  obtain ⟨h0, h1⟩ := h.2 K rfl (by omega)
  rw [List.drop_eq_getElem_cons hK] at h1
  obtain ⟨a1, a2, a3, a4, a5, a6, a7, a8, a9, a10⟩ := h1
  refine ⟨a1, h0, a2, a3, a4, a5, a6, a7, a8 rfl, a9, fun e => by omega, fun K' e hK' => ?_⟩
  obtain rfl : K' = K + 1 := by omega
  exact ⟨rfl, a10⟩
theorem ApInv.fin {s : List Chg} {m n A : Int} {G : List Hnk} {K : Nat} (h : ApInv s m n G K A) (hK : K = G.length) : A = s.length := by
  rcases K with _ | K
  · obtain ⟨rfl, h1⟩ := h.1 rfl
    cases G with
    | nil => exact h1
    | cons g G => simp at hK
  · obtain ⟨h0, h1⟩ := h.2 K rfl (by omega)
    rw [List.drop_eq_nil_of_le (by omega)] at h1
    exact h1
theorem szO_range : ∀ (l : List Chg), 0 ≤ szO l ∧ szO l ≤ 4096 * l.length
  | [] => by simp [szO]
  | c :: l => by
    have h := szO_range l
    have h2 := cnt_range c.ol
    simp only [szO, List.map_cons, List.sum_cons, List.length_cons] at h ⊢
    omega
theorem szN_range : ∀ (l : List Chg), 0 ≤ szN l ∧ szN l ≤ 4096 * l.length
  | [] => by simp [szN]
  | c :: l => by
    have h := szN_range l
    have h2 := cnt_range c.nl
    simp only [szN, List.map_cons, List.sum_cons, List.length_cons] at h ⊢
    omega
/-- The sizes of a part of a script. -/
theorem part_size {s : List Chg} {m n : Int} {F L : Nat} (hb : ∀ c ∈ s, ((0 ≤ c.o ∧ c.o ≤ 4096) ∧ (0 ≤ c.ol ∧ c.ol ≤ 4096) ∧ (0 ≤ c.n ∧ c.n ≤ 4096) ∧ 0 ≤ c.nl ∧ c.nl ≤ 4096) ∧ c.o + c.ol ≤ m ∧ c.n + c.nl ≤ n) (hs : s.length ≤ 18) :
    ∃ X Y : Int, szO ((s.drop F).take (L - F)) = X ∧ szN ((s.drop F).take (L - F)) = Y ∧ sumO ((s.drop (F : Int).toNat).take ((L : Int) - (F : Int)).toNat) = X ∧ sumN ((s.drop (F : Int).toNat).take ((L : Int) - (F : Int)).toNat) = Y ∧ 0 ≤ X ∧ X ≤ 100000 ∧ 0 ≤ Y ∧ Y ≤ 100000 := by
  have e1 : (F : Int).toNat = F := by omega
  have e2 : ((L : Int) - (F : Int)).toNat = L - F := by omega
  rw [e1, e2]
  have hm : ∀ c ∈ (s.drop F).take (L - F), c ∈ s := fun c hc => List.mem_of_mem_drop (List.mem_of_mem_take hc)
  have hl : ((s.drop F).take (L - F)).length ≤ 18 := by simp; omega
  have r1 := szO_range ((s.drop F).take (L - F))
  have r2 := szN_range ((s.drop F).take (L - F))
  refine ⟨_, _, rfl, rfl, (szO_sum fun c hc => ?_).symm, (szN_sum fun c hc => ?_).symm, by omega, by omega, by omega, by omega⟩
  · have := hb c (hm c hc); rw [inL_iff]; omega
  · have := hb c (hm c hc); rw [inL_iff]; omega
theorem Apart.bounds {s : List Chg} {m n : Int} : ∀ {G : List Hnk} {f : Bool} {A x y : Int}, Apart s m n f A x y G → ∀ h ∈ G, 0 ≤ h.off ∧ h.ot ≤ m ∧ 0 ≤ h.nf ∧ h.nt ≤ n
  | [], _, _, _, _, _, h, hh => by simp at hh
  | g :: G, _, _, _, _, h0, h, hh => by
    obtain ⟨a1, a2, a3, a4, a5, a6, a7, a8, a9, a10⟩ := h0
    rcases List.mem_cons.1 hh with rfl | hh
    · exact ⟨a4, a5, a6, a7⟩
    · exact Apart.bounds a10 h hh
theorem ApInv.next' {s : List Chg} {m n A : Int} {G : List Hnk} {K : Nat} (h : ApInv s m n G K A) (P : Nat) (hP : K = P + 1) (hK : K < G.length) (hP2 : P < G.length) :
    G[K].fi = A ∧ G[K].fi < G[K].la ∧ G[K].la ≤ s.length ∧ (G[P].ot < G[K].off ∧ G[K].nf - G[P].nt = G[K].off - G[P].ot) ∧
      G[K].ot - G[K].off - sumO ((s.drop G[K].fi.toNat).take (G[K].la - G[K].fi).toNat) = G[K].nt - G[K].nf - sumN ((s.drop G[K].fi.toNat).take (G[K].la - G[K].fi).toNat) ∧ ApInv s m n G (K + 1) G[K].la := by
  subst hP
  obtain ⟨b1, b2, b3, b4, b5, b6, b7, b8, b9, b10, b11⟩ := h.next hK
  exact ⟨b1, b3, b4, b9, b10, b11⟩
end Go.Proofs.Ml
