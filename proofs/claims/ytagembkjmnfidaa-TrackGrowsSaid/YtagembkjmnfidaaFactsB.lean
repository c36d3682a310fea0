import Derived.Test.YtagembkjmnfidaaFacts
namespace Go.Proofs.Ytagembkjmnfidaa
open Go
set_option linter.unusedVariables false

section
variable {P : Program} {c : List Char} {R : List (List Char)}
theorem make_of (h : behindMainWord (wordsSigns P.initOrder.toList) = c :: R) (h1 : (c == "gc".toList || c == "spec".toList) = false) (h2 : (c == "cut".toList) = true) : P.make = some .cut := by
  unfold Program.make
  rw [h]
  simp only [h1, h2, Bool.true_or, Bool.false_eq_true, if_true, if_false]
theorem strip_of : ∀ os : List String, os.all (fun o => !(c == o.toList)) = true → stripLifts os (c :: R) = ([], c :: R)
  | [], _ => rfl
  | o :: os, h => by
    simp only [List.all_cons, Bool.and_eq_true, Bool.not_eq_true'] at h
    rw [stripLifts, h.1]
    exact strip_of os h.2
theorem lifts_of (h : behindMainWord (wordsSigns P.initOrder.toList) = c :: R) (h1 : liftWords.all (fun o => !(c == o.toList)) = true) (h2 : (c == "cut".toList) = true) (h3 : (c == "carried".toList) = false) : P.headLifts = [] ∧ P.liftsFinal = false := by
  have hl : P.headLifts = [] := by
    unfold Program.headLifts
    rw [h, strip_of _ h1]
    simp
  refine ⟨hl, ?_⟩
  unfold Program.liftsFinal
  rw [h, hl]
  simp only [List.head?_cons]
  have : ((some c : Option (List Char)) == some "carried".toList) = false := by
    rw [← h3]; rfl
  rw [this]
  rfl
theorem enter_of (h : behindMainWord (wordsSigns P.initOrder.toList) = c :: R) (h1 : liftWords.all (fun o => !(c == o.toList)) = true) (h2 : (c == "cut".toList) = true) (h3 : P.laysLater = false) (h4 : P.bearsReflect = false) (h5 : P.doorFits [] = true) : P.mayEnter = true := by
  unfold Program.mayEnter
  rw [h]
  simp only []
  rw [strip_of _ h1]
  have e : ((c :: R).head? == some "cut".toList) = true := by
    rw [← h2]; rfl
  simp only [e, h3, h4, h5]
  simp
end
theorem w2_gc : (signs w2 == "gc".toList || signs w2 == "spec".toList) = false := by kernel_rfl
theorem w2_cut : (signs w2 == "cut".toList) = true := by kernel_rfl
theorem w2_carried : (signs w2 == "carried".toList) = false := by kernel_rfl
theorem w2_lifts : liftWords.all (fun o => !(signs w2 == o.toList)) = true := by kernel_rfl
theorem make_is : Try.prog.make = some .cut := make_of behind w2_gc w2_cut
theorem lifts_is : Try.prog.liftsFinal = false := (lifts_of behind w2_lifts w2_cut w2_carried).2
theorem heads_is : Try.prog.headLifts = [] := (lifts_of behind w2_lifts w2_cut w2_carried).1
theorem lays_is : Try.prog.laysLater = false := by kernel_rfl
theorem refl_is : Try.prog.bearsReflect = false := by kernel_rfl
theorem door_is : Try.prog.doorFits [] = true := by kernel_rfl
theorem enter_is : Try.prog.mayEnter = true := enter_of behind w2_lifts w2_cut lays_is refl_is door_is
theorem and_tt {a b : Bool} (ha : a = true) (hb : b = true) : (a && b) = true := by rw [ha, hb]; rfl
end Go.Proofs.Ytagembkjmnfidaa
