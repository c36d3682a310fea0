/- The law SlideFits returns true for every input, and each argument reads afterwards as it read before. No condition. -/
import Derived.Test.YtagembkjmnfidaaLaw24
import Derived.Test.YtagembkjmnfidaaOpen
import Derived.Test.YtagembkjmnfidaaFactsB
namespace Go.Proofs.Ytagembkjmnfidaa
open Go.ChangeShapes Go.WideShapes Go.ChangeAt Go.RowKit
open Go.Proofs.Ml
set_option linter.unusedVariables false

set_option maxRecDepth 100000 in
theorem slideFits_lifted (os : Os) (started : os.Started) (H : Type) (enc : TypeId × Value → H) :
    ReturnsInHanded {} Try.checked os 24 .any (Rows.slideFitsSpec.pre6 enc Try.prog Try.f24 Rows.slideFitsRow.domain false) (Rows.slideFitsSpec.post enc Try.prog Try.f24 false true false false) := by
  refine returnsInHanded_of_change (C := Try.checked) own started (by kernel_rfl) Try.func24
    (ChangeSpec.witness6 (enc := enc) (C := Try.checked) false ⟨#[], #[.slice none 0 0, .bool false], []⟩ 8 (by kernel_rfl) (by kernel_rfl) (by kernel_rfl) (by kernel_rfl)) ?_
  intro W base args ds gs before hval0 hW hcnd _
  have hval : ∀ (j : Nat) t v, Try.f24.params[j]? = some t → args[j]? = some v → Value.okWide Try.prog W .any base t v := hval0
  have hW' := hW
  obtain ⟨p, q, hA0, hV, rfl, hfz, hnd⟩ := hW
  have hA : DataW.TrodAll enc Try.prog W 0 (fun _ => true) true Try.f24.params.toList args.toList ds p := hA0
  rw [Try.params24] at hA hval
  obtain ⟨v0, vs0, d0, ds0, p0, q0, hargs, rfl, rfl, h0, r0⟩ := trodAll_cons hA
  obtain ⟨v1, vs1, d1, ds1, p1, q1, rfl, rfl, rfl, h1, r1⟩ := trodAll_cons r0
  obtain ⟨rfl, rfl, rfl⟩ := trodAll_nil r1
  obtain rfl : args = #[v0, v1] := by cases args; simp_all
  obtain ⟨rfl, rfl⟩ := trodVars_none hV
  have lt0 : ∀ x ∈ p0, x.block < W.heap.size := by obtain ⟨m, hm⟩ := h0; exact DataW.trod_lt m _ _ _ hm
  obtain ⟨z0, w0, b0⟩ := open_list (fun n => [.int .i64 n]) 1 Try.underlying22 (by kernel_rfl) (fun _ => rfl) (by omega) trod_one (hval 0 22 v0 rfl rfl) h0
  rw [inVals_flat] at w0
  have lt1 : ∀ x ∈ p1, x.block < W.heap.size := by obtain ⟨m, hm⟩ := h1; exact DataW.trod_lt m _ _ _ hm
  obtain ⟨a1, e1, _, _⟩ := open_bool Try.underlying4 (hval 1 4 v1 rfl rfl) h1
  subst e1
  clear hA0 hval0
  refine (walk24 W v0 z0 w0 b0 a1).mono fun e W' ⟨he, bel⟩ => ?_
  subst he
  exact ⟨_, rfl, _, _, _, [], _, [], hW', trodAll_mk1 (shut_bool Try.underlying4 _), (trodAll_cons_mk (Below.trod laidOut (by kernel_rfl) (of_decide_eq_true (by kernel_rfl)) h0 bel lt0) (trodAll_cons_mk (Below.trod laidOut (by kernel_rfl) (of_decide_eq_true (by kernel_rfl)) h1 bel lt1) trodAll_mk0)), rfl, bel.frame _, fun h => by cases h⟩

theorem slideFits_inPlace : (Rows.slideFitsRow.inPlace == Try.prog.inPlace 24) = true := by kernel_rfl
theorem slideFits_unfollowed : (Rows.slideFitsRow.unfollowed == Try.prog.unfollowed 24) = true := by kernel_rfl
theorem slideFits_recurses : (Rows.slideFitsRow.recurses == Try.prog.recurses 24) = true := by kernel_rfl
theorem slideFits_named : (Rows.slideFitsRow.named == Try.prog.varsNamed 24) = true := by kernel_rfl
theorem slideFits_facts : joinedFacts Try.prog 24 Try.f24 Rows.slideFitsSpec Rows.slideFitsRow = true := by
  unfold joinedFacts
  repeat' (with_reducible refine and_tt ?_ ?_)
  · kernel_rfl
  · kernel_rfl
  · kernel_rfl
  · kernel_rfl
  · kernel_rfl
  · kernel_rfl
  · kernel_rfl
  · kernel_rfl
  · kernel_rfl
  · exact slideFits_inPlace
  · exact slideFits_unfollowed
  · exact slideFits_recurses
  · exact slideFits_named
  · kernel_rfl
  · kernel_rfl
  · kernel_rfl
  · kernel_rfl
  · kernel_rfl
  · kernel_rfl
  · kernel_rfl
  · kernel_rfl
  · kernel_rfl
  · kernel_rfl
  · kernel_rfl
  · kernel_rfl
  · exact enter_is
  · rw [lifts_is]; kernel_rfl
  · rw [make_is]; kernel_rfl
  · kernel_rfl
  · kernel_rfl
  · kernel_rfl
  · kernel_rfl
theorem slideFits_holds : Rows.SlideFitsSaid :=
  OpenClaim.holds_of_wide 24 Try.f24 rfl rfl rfl rfl rfl rfl rfl ⟨rfl, rfl, rfl, rfl, rfl⟩ rfl rfl rfl rfl rfl (by kernel_rfl) Try.func24 slideFits_facts
    (of_decide_eq_true (by kernel_rfl)) (by unfold Func.isWrapper; rw [if_neg (by decide +kernel)]; exact ⟨rfl, rfl⟩)
    (fun os started H enc _ => slideFits_lifted os started H enc)
#print axioms slideFits_holds
end Go.Proofs.Ytagembkjmnfidaa
