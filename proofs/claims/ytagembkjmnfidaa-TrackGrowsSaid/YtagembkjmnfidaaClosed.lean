import Derived.Test.YtagembkjmnfidaaSmall
import Derived.RegionTactic
import Derived.ChangeAlike
import Derived.BigRegion
namespace Go.Proofs.Ytagembkjmnfidaa
open Go.RowKit
open Go.Proofs.Ml
set_option linter.unusedVariables false

def hkAgg (h : Hnk) : Value := .agg #[.int .i64 h.fi, .int .i64 h.la, .int .i64 h.off, .int .i64 h.ot, .int .i64 h.nf, .int .i64 h.nt]

theorem hk_eq {a b c d e f : Int} {h : Hnk} (h1 : a = h.fi) (h2 : b = h.la) (h3 : c = h.off) (h4 : d = h.ot) (h5 : e = h.nf) (h6 : f = h.nt) : Ending.returned (.agg #[.int .i64 a, .int .i64 b, .int .i64 c, .int .i64 d, .int .i64 e, .int .i64 f]) = .returned (hkAgg h) := by
  subst h1; subst h2; subst h3; subst h4; subst h5; subst h6; rfl

set_option maxRecDepth 100000 in
set_option maxHeartbeats 400000 in
theorem closed74 (v : Value) (l : List Chg) (F Z : Nat) (m ctx : Int) (w : World) (hr : Rd w v 4 l.length (chVals l)) (hFL : F ≤ Z) (hL : Z < l.length) (hl : l.length ≤ 1000000)
    (hb : ∀ c ∈ l, (0 ≤ c.o ∧ c.o ≤ 4096) ∧ (0 ≤ c.ol ∧ c.ol ≤ 4096) ∧ (0 ≤ c.n ∧ c.n ≤ 4096) ∧ (0 ≤ c.nl ∧ c.nl ≤ 4096)) (hm : 0 ≤ m ∧ m ≤ 4096) (hctx : 0 ≤ ctx ∧ ctx ≤ 1048576) :
    Calls Try.prog 74 #[v, .int .i64 F, .int .i64 ((Z : Int) + 1), .int .i64 m, .int .i64 ctx] w fun e w' => e = .returned (hkAgg (close m ctx F ((Z : Int) + 1) (l[F]'(by omega)) l[Z])) ∧ Below w.heap.size w w' := by
  obtain ⟨A, cap, rfl, hcap, hcap', hlen, hA⟩ := hr
  clear hlen hcap hcap'
  obtain ⟨b, off, rfl, hbb, hc⟩ := hA (by omega)
  obtain ⟨c0, c1, c2, c3⟩ := ch_cells hc hbb (Below.refl _ _) (k := F) (by omega)
  obtain ⟨d0, d1, d2, d3⟩ := ch_cells hc hbb (Below.refl _ _) (k := Z) hL
  have hx := hb (l[F]'(by omega)) (List.getElem_mem _)
  have hy := hb (l[Z]) (List.getElem_mem _)
  clear hA hc hb
  generalize l[F]'(by omega) = a at *
  generalize l[Z] = z at *
  obtain ⟨aO, aOL, aN, aNL⟩ := a
  obtain ⟨zO, zOL, zN, zNL⟩ := z
  simp only at c0 c1 c2 c3 d0 d1 d2 d3 hx hy
  have h1 : (0 : Int) ≤ (F : Int) := by omega
  have h2 : (F : Int) < (l.length : Int) := by omega
  have h3 : (0 : Int) ≤ (Z : Int) := by omega
  have h4 : (Z : Int) < (l.length : Int) := by omega
  have e1 : b < w.heap.size + 1 := by omega
  have e2 : b < w.heap.size + 1 + 1 := by omega
  have e3 : b < w.heap.size + 2 := by omega
  go_enter Try.func74, Try.ntmps74
  go_wp2_with fail
  go_region
  all_goals
    go_wp2_with fail
  all_goals
    go_returns
    refine ⟨hk_eq ?_ ?_ ?_ ?_ ?_ ?_, ?_⟩
    · rfl
    · rfl
    · show _ = aO - min ctx aO; omega
    · show _ = zO + zOL + min ctx (m - zO - zOL); omega
    · show _ = aN - min ctx aO; omega
    · show _ = zN + zNL + min ctx (m - zO - zOL); omega
    · go_grown
end Go.Proofs.Ytagembkjmnfidaa
