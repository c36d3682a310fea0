import Derived.Test.YtagembkjmnfidaaSpecB
namespace Go.Proofs.Ml
set_option linter.unusedVariables false

/-- How far the reference's Group has come: the last hunk of its list is the open one. -/
def RgInv (l : List Chg) (m ctx : Int) (K : Nat) (L' : List Hnk) : Prop :=
  (K = 0 → L' = []) ∧ ∀ K', K = K' + 1 → ∀ hK : K' < l.length, ∃ (L : List Hnk) (F : Nat) (hF : F < l.length), L' = L ++ [close m ctx F ((K' : Int) + 1) l[F] l[K']] ∧ hunks l m ctx = L ++ hunksGo m ctx ((K' : Int) + 1) F l[F] l[K'] (l.drop (K' + 1))
theorem RgInv.start (l : List Chg) (m ctx : Int) : RgInv l m ctx 0 [] := ⟨fun _ => rfl, fun _ h => by omega⟩
theorem RgInv.first {l : List Chg} {m ctx : Int} (h : 0 < l.length) : RgInv l m ctx 1 [close m ctx 0 1 l[0] l[0]] := by
  refine ⟨fun e => by omega, fun K' e hK => ?_⟩
  obtain rfl : K' = 0 := by omega
  refine ⟨[], 0, hK, by simp, ?_⟩
  cases l with
  | nil => simp at h
  | cons c l => simp [hunks, hunksFrom]
theorem RgInv.first' {l : List Chg} {m ctx : Int} {K : Nat} {L : List Hnk} (h : RgInv l m ctx K L) (hK : K = 0) (hlt : K < l.length) : RgInv l m ctx (K + 1) (L ++ [close m ctx K ((K : Int) + 1) l[K] l[K]]) := by
  rw [h.1 hK]
  subst hK
  exact RgInv.first hlt
theorem RgInv.cut {l : List Chg} {m ctx : Int} {K : Nat} {L' : List Hnk} (h : RgInv l m ctx (K + 1) L') (hK : K + 1 < l.length) (hg : 2 * ctx < l[K + 1].o - l[K].o - l[K].ol) :
    RgInv l m ctx (K + 2) (L' ++ [close m ctx ((K : Int) + 1) ((K : Int) + 2) l[K + 1] l[K + 1]]) := by
  refine ⟨fun e => by omega, fun K' e hK' => ?_⟩
  obtain rfl : K' = K + 1 := by omega
  obtain ⟨L, F, hF, e1, e2⟩ := h.2 K rfl (by omega)
  refine ⟨L', K + 1, hK, by rw [show (((K + 1 : Nat) : Int)) = (K : Int) + 1 by omega, show (K : Int) + 1 + 1 = (K : Int) + 2 by omega], ?_⟩
  rw [e2, List.drop_eq_getElem_cons hK, hunksGo, if_pos hg, e1, List.append_assoc]
  rfl
theorem RgInv.keep {l : List Chg} {m ctx : Int} {K : Nat} {L' : List Hnk} (h : RgInv l m ctx (K + 1) L') (hK : K + 1 < l.length) (hg : ¬ 2 * ctx < l[K + 1].o - l[K].o - l[K].ol) :
    ∃ (L : List Hnk) (H : Hnk), L' = L ++ [H] ∧ RgInv l m ctx (K + 2) (L ++ [⟨H.fi, (K : Int) + 2, H.off, l[K + 1].o + l[K + 1].ol + min ctx (m - l[K + 1].o - l[K + 1].ol), H.nf, l[K + 1].n + l[K + 1].nl + min ctx (m - l[K + 1].o - l[K + 1].ol)⟩]) := by
  obtain ⟨L, F, hF, e1, e2⟩ := h.2 K rfl (by omega)
  refine ⟨L, _, e1, fun e => by omega, fun K' e hK' => ?_⟩
  obtain rfl : K' = K + 1 := by omega
  refine ⟨L, F, hF, ?_, ?_⟩
  · congr 2
    try (simp only [close, Hnk.mk.injEq, and_self, true_and, and_true]; try omega)
  · rw [e2, List.drop_eq_getElem_cons hK, hunksGo, if_neg hg]
    rfl
theorem RgInv.congr {l : List Chg} {m ctx : Int} {K K' : Nat} {L : List Hnk} {H : Hnk} {a b c d e f : Int} (h : RgInv l m ctx K (L ++ [H])) (hK : K = K') (h1 : H.fi = a) (h2 : H.la = b) (h3 : H.off = c) (h4 : H.ot = d) (h5 : H.nf = e) (h6 : H.nt = f) : RgInv l m ctx K' (L ++ [⟨a, b, c, d, e, f⟩]) := by
  subst hK; subst h1; subst h2; subst h3; subst h4; subst h5; subst h6; exact h
theorem RgInv.fin {l : List Chg} {m ctx : Int} {K : Nat} {L' : List Hnk} (h : RgInv l m ctx K L') (hK : K = l.length) : hunks l m ctx = L' := by
  rcases K with _ | K
  · rw [h.1 rfl]
    cases l with
    | nil => rfl
    | cons c l => simp at hK
  · obtain ⟨L, F, hF, e1, e2⟩ := h.2 K rfl (by omega)
    rw [e2, e1, List.drop_eq_nil_of_le (by omega), hunksGo]
end Go.Proofs.Ml
