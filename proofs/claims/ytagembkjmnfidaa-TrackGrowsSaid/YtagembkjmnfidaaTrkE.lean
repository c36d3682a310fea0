import Derived.Test.YtagembkjmnfidaaTrkD
import Derived.Test.YtagembkjmnfidaaAwkS
import Derived.Test.YtagembkjmnfidaaGen2
import Derived.RegionTactic
import Derived.ChangeAlike
import Derived.BigRegion
import Derived.Deep.RegionWith
import Derived.IntWalk
namespace Go.Proofs.Ytagembkjmnfidaa
open Go.RowKit
open Go.Proofs.Ml
set_option linter.unusedVariables false

set_option maxRecDepth 100000 in
set_option maxHeartbeats 1600000 in
theorem awake54 (w : World) : Calls Try.prog 54 #[] w fun e w' => e = .returned (.bool true) ∧ Below w.heap.size w w' := by
  have HG := hide (show bkRes [⟨1, 1, 1, 0⟩] 3 2 ⟨0, 2⟩ = (⟨0, 3⟩, true) ∧ tkErr [⟨1, 1, 1, 0⟩] 3 2 ⟨0, 2⟩ = 0 ∧ tcRes [⟨1, 1, 1, 0⟩] 3 2 ⟨0, 2⟩ = true ∧ tkErr [⟨1, 1, 1, 0⟩] 3 2 ⟨1, 2⟩ = 0 ∧ tcRes [⟨1, 1, 1, 0⟩] 3 2 ⟨1, 2⟩ = false by decide)
  have h0 : Below w.heap.size w (w.alloc (.cells #[.int .i64 1, .int .i64 1, .int .i64 1, .int .i64 0] 45)) := (Below.refl _ _).alloc (Nat.le_refl _) _
  have HR := hide (show Rd (w.alloc (.cells #[.int .i64 1, .int .i64 1, .int .i64 1, .int .i64 0] 45)) (.slice (some ⟨w.heap.size, 0, none⟩) 1 1) 4 ([⟨1, 1, 1, 0⟩] : List Chg).length (chVals [⟨1, 1, 1, 0⟩]) from Rd.lit rfl (by decide))
  have H0 := hide h0
  clear h0
  go_enter Try.func54, Try.ntmps54
  go_wp2_with fail
  refine (back56 _ [⟨1, 1, 1, 0⟩] 3 2 ⟨0, 2⟩ _ HR.out (by decide)).mono ?_
  rintro e w1 ⟨rfl, hb1⟩
  rw [HG.out.1, HG.out.2.1]
  have c1 := H0.out.trans (hb1.mono H0.out.size)
  have s1 := c1.size
  have HR1 := hide ((HR.out.below hb1 (Nat.le_refl _)).below ((Below.refl w1.heap.size w1).alloc (Nat.le_refl _) (.cells #[.int .i64 0, .int .i64 3] 35)) (Nat.le_refl _))
  unfold spAgg
  clear hb1
  go_wp2_with fail
  refine (touch58 _ [⟨1, 1, 1, 0⟩] 3 2 ⟨0, 2⟩ _ HR1.out (by decide)).mono ?_
  rintro e w2 ⟨rfl, hb2⟩
  rw [HG.out.2.2.1, HG.out.2.1]
  have ht2 := (Two.new w1 35 (.int .i64 0) (.int .i64 3)).below hb2 (by simp)
  have HR2 := hide (HR1.out.below hb2 (Nat.le_refl _))
  have b12 : Below w1.heap.size w1 w2 := ((Below.refl w1.heap.size w1).alloc (Nat.le_refl _) _).trans (hb2.mono (by simp))
  have c2 := c1.trans (b12.mono s1)
  have s2 := c2.size
  have s12 := b12.size
  have hl2 := ht2.lt
  have HT2 := hide ht2
  clear hb2 ht2
  go_wp2_with fail
  refine (touch58 _ [⟨1, 1, 1, 0⟩] 3 2 ⟨1, 2⟩ _ HR2.out (by decide)).mono ?_
  rintro e w3 ⟨rfl, hb3⟩
  rw [HG.out.2.2.2.1, HG.out.2.2.2.2]
  have ht3 := HT2.out.below hb3 hl2
  have y0 := ht3.c0
  have y1 := ht3.c1
  clear ht3
  go_wp2_with fail
  go_ret
  exact ⟨rfl, c2.trans (hb3.mono s2)⟩

/-- What law29's pick hands back: a valid script and a span of its new lines, if there are any. -/
def PickPost (w : World) (e : Ending) (w' : World) : Prop := ∃ (v : Value) (l : List Chg) (m n : Int) (s : Spn), e = .returned (.tuple #[v, .int .i64 m, .int .i64 n, spAgg s]) ∧ valid l m n = true ∧ m ≤ 9 ∧ n ≤ 9 ∧ l.length ≤ 18 ∧
  (n = 0 ∨ (0 ≤ s.f ∧ s.f < s.t ∧ s.t ≤ n)) ∧ w'.ownsRow w.heap.size 45 4 v l.length (chVals l) ∧ Below w.heap.size w w'

set_option maxRecDepth 100000 in
set_option maxHeartbeats 1600000 in
theorem pick55 (v : Value) (zs : List Int) (a b : Int) (w : World) (hr : Rd w v 1 zs.length (inVals zs)) (hz : zs.length ≤ 9223372036854775807) :
    Calls Try.prog 55 #[v, .int .i64 a, .int .i64 b] w (PickPost w) := by
  have HR := hide (hr.below ((Below.refl w.heap.size w).alloc (Nat.le_refl _) (.cells #[.int .i64 0, .int .i64 0] 35)) (Nat.le_refl _))
  clear hr
  go_enter Try.func55, Try.ntmps55
  go_wp2_with fail
  refine (script27 _ zs 0 _ HR.out hz (by omega) (by omega)).mono ?_
  rintro e w1 ⟨sv, s, m, n, rfl, hval, hm, hn, hsl, hs, hb1⟩
  have c1 : Below w.heap.size w w1 := ((Below.refl w.heap.size w).alloc (Nat.le_refl _) _).trans (hb1.mono (by simp))
  have s1 := c1.size
  have hown := own_base hs (show w.heap.size ≤ _ by simp)
  have ht := (Two.new w 35 (.int .i64 0) (.int .i64 0)).below hb1 (by simp)
  have y0 := ht.c0
  have y1 := ht.c1
  have z0 := ht.z 0
  have z1 := ht.z 1
  have hlt := ht.lt
  have hn0 := (valid_iff.1 hval).2.1
  obtain ⟨n0, n1⟩ := hn0
  have HV := hide hval
  have HO := hide hown
  have hB : ∀ k, sv.ownBlock = some k → w.heap.size + 1 ≤ k := fun k hk => by have := (hs.lt k hk).1; simpa using this
  have HOB := hide hB
  clear hs hb1 ht hval hown hB
  by_cases hz0 : n = 0
  · subst hz0
    go_wp2_with fail
    refine bodyPost_ret (v := .tuple #[sv, .int .i64 m, .int .i64 0, .agg #[.int .i64 0, .int .i64 0]]) (by simp [results, Try.results55, go_sem, y0, y1]) rfl ?_
    exact ⟨sv, s, m, 0, ⟨0, 0⟩, rfl, HV.out, hm, hn, hsl, .inl rfl, ownsRow_setCell_other (a := ⟨w.heap.size, 1, none⟩) (ownsRow_setCell_other (a := ⟨w.heap.size, 0, none⟩) HO.out (fun e => by have := HOB.out _ e; simp at this; omega) _) (fun e => by have := HOB.out _ e; simp at this; omega) _, (c1.setCell (p := ⟨w.heap.size, 0, none⟩) (Nat.le_refl _) _).setCell (p := ⟨w.heap.size, 1, none⟩) (Nat.le_refl _) _⟩
  · have hE : ((n == 0) : Bool) = false := by simp [hz0]
    have hn2 : 1 ≤ n := by omega
    clear hz0
    go_wp2_with fail
    refine (mod29 a n _ (by omega) (by omega)).mono ?_
    rintro e w' ⟨rfl, rfl⟩
    obtain ⟨F0, F1⟩ := gmod_range a n (by omega) (by omega)
    generalize gmod a n = F at *
    have HM := hide (fun W => mod29 b (n - F) W (by omega) (by omega))
    obtain ⟨G0, G1⟩ := gmod_range b (n - F) (by omega) (by omega)
    generalize gmod b (n - F) = G at *
    have e1 := IntWalk.i64_in (n - F) (by omega)
    have e2 := IntWalk.i64_in (F + 1) (by omega)
    have e3 := IntWalk.i64_in (F + 1 + G) (by omega)
    go_wp2_with fail
    go_region_with ((go_at_call 29; refine (HM.out _).mono ?_; rintro e w' ⟨rfl, rfl⟩))
    all_goals
      go_wp2_with fail
      go_region
      go_wp2_with fail
      refine bodyPost_ret (v := .tuple #[sv, .int .i64 m, .int .i64 n, .agg #[.int .i64 F, .int .i64 (F + 1 + G)]]) (by simp [results, Try.results55, go_sem, y0, y1, hlt]) rfl ?_
      exact ⟨sv, s, m, n, ⟨F, F + 1 + G⟩, rfl, HV.out, hm, hn, hsl, .inr ⟨F0, by show F < F + 1 + G; omega, by show F + 1 + G ≤ n; omega⟩, own_drew (own_drew ((ownsRow_setCell_other (a := ⟨w.heap.size, 1, none⟩) (ownsRow_setCell_other (a := ⟨w.heap.size, 0, none⟩) HO.out (fun e => by have := HOB.out _ e; simp at this; omega) _) (fun e => by have := HOB.out _ e; simp at this; omega) _).alloc _)), ((((c1.setCell (p := ⟨w.heap.size, 0, none⟩) (Nat.le_refl _) _).setCell (p := ⟨w.heap.size, 1, none⟩) (Nat.le_refl _) _).alloc (by simpa using s1) _).drew).drew⟩
end Go.Proofs.Ytagembkjmnfidaa
