/- The law TopBeyond returns true for every input, and each argument reads afterwards as it read before; the five tables of Go's library that the row lists are tied to the program's text by the card. No condition beyond what the card lists. -/
import Derived.Test.YtbjbcfiieacamaaGreatDoorUK
import Derived.Test.YtbjbcfiieacamaaGreatDoorRows
import Derived.Test.YtbjbcfiieacamaaGreatDoorTie
import Derived.Test.YtbjbcfiieacamaaGreatDoorCards
import Derived.LaidMore
import Derived.Lay
import Derived.LaidOnce
import Derived.SevenTiedAt
import Derived.Stop.Joined
namespace Go.Proofs.YtbjbcfiieacamaaGreatDoor
open Go.ChangeShapes Go.WideShapes Go.ChangeAt Go.RowKit
set_option linter.unusedVariables false

theorem tables_met (os : Os) (args : Array Value) : laidMetH Tryz.prog Rows.topBeyondRow.laid ((World.laidAll Tryz.prog os Rows.topBeyondRow.laid).forCall (fun _ _ => 0) ⟨#[], args, []⟩).memory := by
  rw [MakeChecks.laidMetH_plain _ _ _ (by kernel_rfl)]
  exact laidMet_laidAll _ (by kernel_rfl) (by kernel_rfl)

set_option maxRecDepth 100000 in
theorem topBeyond_lifted (os : Os) (started : os.Started) (H : Type) (enc : TypeId × Value → H) :
    ReturnsInHanded {} Tryz.checked os 3 .any (fun w args => (Rows.topBeyondSpec.pre enc Tryz.prog Tryz.f3 [] false w args ∧ laidMetH Tryz.prog Rows.topBeyondRow.laid w) ∧ sizedMet enc Tryz.prog Tryz.f3 (OpenSpec.ofChange Rows.topBeyondSpec) false w args)
      (Rows.topBeyondSpec.post enc Tryz.prog Tryz.f3 false true false false) := by
  refine returnsInHanded_of_calls (C := Tryz.checked) own started (by kernel_rfl)
    (ChangeSpec.witness_shaped (enc := enc) (C := Tryz.checked) (os := os) (X := fun w _ => laidMetH Tryz.prog Rows.topBeyondRow.laid w) false (World.laidAll Tryz.prog os Rows.topBeyondRow.laid) #[.slice none 0 0, .int .i64 0] 8 (World.laidAll_os _ _ _)
      (World.shaped_of_ZipB (by kernel_rfl) (by kernel_rfl)) (by kernel_rfl) (by kernel_rfl) (by kernel_rfl) (tables_met os _)) ?_
  intro w tape i _ hsh _ hok hpre _
  obtain ⟨_, _, _, fn', hfn', _, _, _, _, hval0⟩ := hok
  obtain rfl : fn' = Tryz.f3 := Option.some.inj (hfn'.symm.trans Tryz.func3)
  obtain ⟨⟨⟨ds, gs, before, hw, _⟩, _⟩, _⟩ := hpre
  have hW : DataW.Whole enc Tryz.prog Tryz.f3.params.toList Rows.topBeyondSpec.vars false (w.forCall tape i) i.args.toList ds gs before := DataW.Whole.of_heap (w' := w.forCall tape i) (by rfl) hw
  have hM := mx_of_shaped hsh
  obtain ⟨W, hWW⟩ : ∃ W, W = w.forCall tape i := ⟨_, rfl⟩
  obtain ⟨args, hargs⟩ : ∃ args, args = i.args := ⟨_, rfl⟩
  rw [← hWW] at hW hval0 hM ⊢
  rw [← hargs] at hW hval0 ⊢
  have hval : ∀ (j : Nat) t v, Tryz.f3.params[j]? = some t → args[j]? = some v → Value.okWide Tryz.prog W .any _ t v := hval0
  suffices hc : Calls Tryz.prog 3 args W fun e W' => ∃ v, e = .returned v ∧ Rows.topBeyondSpec.post enc Tryz.prog Tryz.f3 false true false false W args v W' by
    refine hc.mono fun e W' ⟨v, he, hp⟩ => ?_
    subst he
    exact ChangeSpec.post_blind hp
  have hW' := hW
  obtain ⟨p, q, hA0, hV, rfl, hfz, hnd⟩ := hW
  have hA : DataW.TrodAll enc Tryz.prog W 0 (fun _ => true) true Tryz.f3.params.toList args.toList ds p := hA0
  rw [Tryz.params3] at hA hval
  obtain ⟨v0, vs0, d0, ds0, p0, q0, ha0, rfl, rfl, h0, r0⟩ := trodAll_cons hA
  obtain ⟨v1, vs1, d1, ds1, p1, q1, rfl, rfl, rfl, h1, r1⟩ := trodAll_cons r0
  obtain ⟨rfl, rfl, rfl⟩ := trodAll_nil r1
  obtain ⟨rfl, rfl⟩ := trodVars_none hV
  have hl : args = #[v0, v1] := by cases args; simp_all
  have lt0 : ∀ x ∈ p0, x.block < W.heap.size := by obtain ⟨m, hm⟩ := h0; exact DataW.trod_lt m _ _ _ hm
  obtain ⟨z0, w0, b0⟩ := open_list (hval 0 22 v0 rfl (by rw [hl]; rfl)) h0
  have lt1 : ∀ x ∈ p1, x.block < W.heap.size := by obtain ⟨m, hm⟩ := h1; exact DataW.trod_lt m _ _ _ hm
  obtain ⟨a1, e1, _, _, w1⟩ := open_int Tryz.underlying3 (hval 1 3 v1 rfl (by rw [hl]; rfl)) h1
  subst e1
  clear hA0 hval0 hval hA hsh hfn'
  rw [hl]
  rw [hl] at hW'
  refine (top3 v0 z0 a1 W w0 b0 hM).mono fun e W' ⟨he, bel⟩ => ?_
  subst he
  exact ⟨_, rfl, _, _, _, [], _, [], hW', trodAll_mk1 (shut_bool Tryz.underlying4 _), (trodAll_cons_mk (Below.trod laidOut (by kernel_rfl) (of_decide_eq_true (by kernel_rfl)) h0 bel lt0) (trodAll_cons_mk (Below.trod laidOut (by kernel_rfl) (of_decide_eq_true (by kernel_rfl)) h1 bel lt1) trodAll_mk0)), rfl, bel.frame _, fun h => by cases h⟩

theorem topBeyond_row_holds : Rows.TopBeyondSaid :=
  OpenClaim.holds_of_wide 3 Tryz.f3 rfl rfl rfl rfl rfl rfl rfl ⟨rfl, rfl, rfl, rfl, rfl⟩ rfl rfl rfl rfl rfl (by kernel_rfl) Tryz.func3 (by kernel_rfl)
    (of_decide_eq_true (by kernel_rfl)) (by unfold Func.isWrapper; first | (rw [if_pos (by decide +kernel)]; kernel_rfl) | (rw [if_neg (by decide +kernel)]; exact ⟨rfl, rfl⟩))
    (fun os started H enc _ => topBeyond_lifted os started H enc)

theorem topBeyond_holds : Rows.TopBeyondCardSaid :=
  Claim7.holds_tied_plain_at .later [] [.data, .data, .data, .data, .pinned] true (true, "40858e353ceb5aa9836df03e6c6b7a7ff364df6479e6fee1e7f0edf310f9962b") false topBeyond_row_holds (fun _ h => by cases h) (by kernel_rfl) (fun _ h => by cases h) topBeyond_row_tie rfl ⟨rfl, rfl⟩ (by kernel_rfl) rfl
    (fun f fn hf hfn => by
      obtain rfl : f = 3 := Option.some.inj ((show Tryz.prog.funcNamed "mergelens/mergelenstop.TopBeyond" = some 3 by kernel_rfl).symm.trans hf) |>.symm
      obtain rfl : fn = Tryz.f3 := (Option.some.inj (Tryz.func3.symm.trans hfn)).symm
      exact ⟨by kernel_rfl, fun j t ht => by
        rw [Tryz.params3] at ht
        have hm : t ∈ [22, 3] := by simpa using Array.mem_of_getElem? ht
        have hall : ([22, 3].all fun u => !Tryz.prog.wantsStandIn u) = true := by kernel_rfl
        exact (show Tryz.prog.wantsStandIn t = false by simpa using List.all_eq_true.1 hall t hm)⟩)
    (by kernel_rfl)
#print axioms topBeyond_holds
end Go.Proofs.YtbjbcfiieacamaaGreatDoor
