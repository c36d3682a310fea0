import Derived.Test.YtagembkjmnfidaaSldI
namespace Go.Proofs.Ytagembkjmnfidaa
open Go.RowKit
open Go.Proofs.Ml
set_option linter.unusedVariables false


set_option maxRecDepth 100000 in
set_option maxHeartbeats 1600000 in
theorem rdown69 (v va vb : Value) (l : List Chg) (a b : List Int) (w : World) (hr : Rd w v 4 l.length (chVals l)) (hra : Rd w va 1 a.length (inVals a)) (hrb : Rd w vb 1 b.length (inVals b)) (hl : l.length ≤ 900000) :
    Calls Try.prog 69 #[v, va, vb] w (SlRet (canD a b) (1) ((List.range l.length).reverse) w l a b) := by
  have H48 := hide (fits48 v va vb l a b w hr hra hrb hl)
  have HR := hide hr
  have HRA := hide hra
  have HRB := hide hrb
  obtain ⟨Aa, ca, rfl, _, _, _, _⟩ := hra
  obtain ⟨Ab, cb, rfl, _, _, _, _⟩ := hrb
  obtain ⟨A, cap, rfl, _, _, _, hA⟩ := hr
  clear hA
  have e0 := IntWalk.i64_in ((l.length : Int) - 1) (by omega)
  go_enter Try.func69, Try.ntmps69
  go_wp2_with fail
  refine H48.out.mono ?_
  rintro e w1 ⟨rfl, hb1⟩
  cases hf : fits l a b with
  | false =>
    have HF := hide hf
    clear hf H48
    go_wp2_with fail
    go_returns
    exact .inl ⟨HF.out, rfl, hb1⟩
  | true =>
    have HF := hide hf
    clear hf H48
    go_wp2_with fail
    go_loopw [0, 8] (fun v k wr => ∃ (z : Int) (J : Nat) (cur : List Chg), k = .int .i64 z ∧ z = (J : Int) - 1 ∧ J ≤ l.length ∧ cur.length = l.length ∧ (∀ r, Mvs (canD a b) 1 (List.range J).reverse cur r → Mvs (canD a b) 1 (List.range l.length).reverse l r) ∧ fits cur a b = true ∧ Rd wr v 4 cur.length (chVals cur) ∧ Below w.heap.size w wr)
      (fun _ k _ => (intOf k + 1).toNat)
    case atStart => exact ⟨_, l.length, l, rfl, rfl, Nat.le_refl _, rfl, fun r h => h, HF.out, HR.out.below hb1 (Nat.le_refl _), hb1⟩
    case round =>
      obtain ⟨wo, rfl⟩ : ∃ wo : World, wo = wr := ⟨_, rfl⟩
      obtain ⟨z, J, cur, rfl, hz, hJ, hlen, hinv, hfc, hx, hbel⟩ := hrel
      have HI := hide hinv
      have HFC := hide hfc
      have HX0 := hide hx
      obtain ⟨Ax, cx, rfl, _, _, _, _⟩ := hx
      have hc9 : cur.length ≤ 900000 := by omega
      have HLEN := hide hlen
      clear hinv hfc hlen
      by_cases h0 : 0 ≤ z
      · obtain ⟨P, rfl⟩ := Int.eq_ofNat_of_zero_le h0
        obtain rfl : J = P + 1 := by omega
        have e1 := IntWalk.i64_in ((P : Int) - 1) (by omega)
        have hPc : P < cur.length := by have := HLEN.out; omega
        clear hz
        go_wp2_with fail
        go_loopg [0] 5000 (fun n v wr => ∃ (c : Nat) (x : List Chg), n = 5000 - c ∧ c ≤ 4096 ∧ OfInv (canD a b) (1) P cur c x ∧ fits x a b = true ∧ Rd wr v 4 x.length (chVals x) ∧ Below w.heap.size w wr)
        case atStart => exact ⟨0, cur, rfl, by omega, OfInv.start _ _ _ _, HFC.out, HX0.out, hbel⟩
        case round =>
          obtain ⟨c, x, hn, hc, hof, hfx, hrx, hbx⟩ := hrel
          have hxl : x.length = l.length := hof.len.trans HLEN.out
          have HXL := hide hxl
          clear hxl
          have hPx : P < x.length := by have := hof.len; omega
          have hx9 : x.length ≤ 900000 := by have := hof.len; omega
          have hvx := (fits_iff.1 hfx).1
          have hbd := (valid_iff.1 hvx).2.2.bounds x[P] (List.getElem_mem _)
          have HOF := hide hof
          have HRX := hide hrx
          have HFX := hide hfx
          have HN := hide hn
          have HS := hide (down90 _ _ _ x a b P wr hrx (HRA.out.below hbx (Nat.le_refl _)) (HRB.out.below hbx (Nat.le_refl _)) hvx hPx)
          have HMV := hide (fun v_ W (hW : Rd W v_ 4 x.length (chVals x)) => moved89 v_ x P (1) W hW hx9 hPx (by omega) (by omega))
          clear hof hrx hfx hn hvx hbd
          go_wp2_with fail
          refine HS.out.mono ?_
          rintro e w3 ⟨⟨r, rfl, hcan⟩, hb3⟩
          have hbx3 := hbx.trans (hb3.mono hbx.size)
          cases r with
          | true =>
            have HC := hide (hcan.1 rfl)
            have HB3 := hide hb3
            clear hcan hb3 HS
            go_wp2_with fail
            refine (HMV.out _ _ (HRX.out.below HB3.out (Nat.le_refl _))).mono ?_
            rintro e w4 ⟨v4, rfl, ho4, hb4⟩
            have hfx2 := fits_down HFX.out HC.out
            have hcb := (HOF.out.next HC.out).bound (by omega) hPc HFC.out hfx2
            have HR4 := hide (Rd.of_own ho4)
            have HB4 := hide (hbx3.trans (hb4.mono hbx3.size))
            have HFX2 := hide hfx2
            clear ho4 hb4 hfx2
            go_wp2_with fail
            go_roundg (5000 - (c + 1))
            case measure => have := HN.out; omega
            case rel => exact ⟨c + 1, _, rfl, hcb, HOF.out.next HC.out, HFX2.out, by rw [mv_length]; exact HR4.out, HB4.out⟩
          | false =>
            have HC := hide (HOF.out.fin (fun h => by simpa using hcan.2 h))
            have HR3 := hide (HRX.out.below hb3 (Nat.le_refl _))
            clear hcan hb3 HS
            go_wp2_with fail
            go_roundw
            case rel => exact ⟨_, P, x, rfl, rfl, by omega, HXL.out, fun s hs => HI.out s (by rw [List.range_succ, List.reverse_append]; exact .cons P _ c cur x s HC.out hs), HFX.out, HR3.out, hbx3⟩
            case measure => simp [intOf]
      · obtain rfl : J = 0 := by omega
        have HX := HX0
        go_wp2_with (at_builtin; go_must (refine wp_appR rfl (.tmp 29) (.tmp 30) 23 45 4 32 _ rfl Try.underlying23 info45 rfl (by omega) (by omega) _ wo.heap.size 0 _ [] rfl (World.ownsRow_made wo #[] 0 (Nat.le_refl _) (by simp) rfl) Ax cur.length cx (chVals cur) rfl (HX.out.below ((Below.refl _ _).alloc (Nat.le_refl _) _) (Nat.le_refl _)) (chVals_one cur) (by omega) (by simp) ?_); intro vq W4 hoq hb4' hs4'; rw [Nat.zero_add, List.nil_append] at hoq; have HO := hide hoq; have HB := hide (((Below.refl wo.heap.size wo).alloc (Nat.le_refl _) (.cells #[] 45)).trans hb4'); obtain ⟨Aq, cq, rfl, hgq⟩ := own_open hoq; clear hoq hb4' hs4' hgq)
        go_returns
        exact .inr ⟨HF.out, cur, _, rfl, HI.out cur (.nil _), HFC.out, own_base HO.out hbel.size, hbel.trans (HB.out.mono hbel.size)⟩

set_option maxRecDepth 100000 in
set_option maxHeartbeats 1600000 in
theorem rup71 (v va vb : Value) (l : List Chg) (a b : List Int) (w : World) (hr : Rd w v 4 l.length (chVals l)) (hra : Rd w va 1 a.length (inVals a)) (hrb : Rd w vb 1 b.length (inVals b)) (hl : l.length ≤ 900000) :
    Calls Try.prog 71 #[v, va, vb] w (SlRet (canU a b) (-1) (List.range' 0 l.length) w l a b) := by
  have H48 := hide (fits48 v va vb l a b w hr hra hrb hl)
  have HR := hide hr
  have HRA := hide hra
  have HRB := hide hrb
  obtain ⟨Aa, ca, rfl, _, _, _, _⟩ := hra
  obtain ⟨Ab, cb, rfl, _, _, _, _⟩ := hrb
  obtain ⟨A, cap, rfl, _, _, _, hA⟩ := hr
  clear hA
  have e0 := IntWalk.i64_in ((l.length : Int) - 1) (by omega)
  go_enter Try.func71, Try.ntmps71
  go_wp2_with fail
  refine H48.out.mono ?_
  rintro e w1 ⟨rfl, hb1⟩
  cases hf : fits l a b with
  | false =>
    have HF := hide hf
    clear hf H48
    go_wp2_with fail
    go_returns
    exact .inl ⟨HF.out, rfl, hb1⟩
  | true =>
    have HF := hide hf
    clear hf H48
    go_wp2_with fail
    go_loopw [0, 8] (fun v k wr => ∃ (J : Nat) (cur : List Chg), k = .int .i64 J ∧ J ≤ l.length ∧ cur.length = l.length ∧ (∀ r, Mvs (canU a b) (-1) (List.range' J (l.length - J)) cur r → Mvs (canU a b) (-1) (List.range' 0 l.length) l r) ∧ fits cur a b = true ∧ Rd wr v 4 cur.length (chVals cur) ∧ Below w.heap.size w wr)
      (fun _ k _ => l.length - (intOf k).toNat)
    case atStart => exact ⟨0, l, rfl, by omega, rfl, fun r h => h, HF.out, HR.out.below hb1 (Nat.le_refl _), hb1⟩
    case round =>
      obtain ⟨wo, rfl⟩ : ∃ wo : World, wo = wr := ⟨_, rfl⟩
      obtain ⟨P, cur, rfl, hJ, hlen, hinv, hfc, hx, hbel⟩ := hrel
      have HI := hide hinv
      have HFC := hide hfc
      have HX0 := hide hx
      obtain ⟨Ax, cx, rfl, _, _, _, _⟩ := hx
      have hc9 : cur.length ≤ 900000 := by omega
      have HLEN := hide hlen
      clear hinv hfc hlen
      by_cases h0 : P < cur.length
      · have hPc := h0
        have e1 : IntKind.i64.wrap ((P : Int) + 1) = ((P + 1 : Nat) : Int) := by rw [IntWalk.i64_in _ (by omega)]; omega
        go_wp2_with fail
        go_loopg [0] 5000 (fun n v wr => ∃ (c : Nat) (x : List Chg), n = 5000 - c ∧ c ≤ 4096 ∧ OfInv (canU a b) (-1) P cur c x ∧ fits x a b = true ∧ Rd wr v 4 x.length (chVals x) ∧ Below w.heap.size w wr)
        case atStart => exact ⟨0, cur, rfl, by omega, OfInv.start _ _ _ _, HFC.out, HX0.out, hbel⟩
        case round =>
          obtain ⟨c, x, hn, hc, hof, hfx, hrx, hbx⟩ := hrel
          have hxl : x.length = l.length := hof.len.trans HLEN.out
          have HXL := hide hxl
          clear hxl
          have hPx : P < x.length := by have := hof.len; omega
          have hx9 : x.length ≤ 900000 := by have := hof.len; omega
          have hvx := (fits_iff.1 hfx).1
          have hbd := (valid_iff.1 hvx).2.2.bounds x[P] (List.getElem_mem _)
          have HOF := hide hof
          have HRX := hide hrx
          have HFX := hide hfx
          have HN := hide hn
          have HS := hide (up88 _ _ _ x a b P wr hrx (HRA.out.below hbx (Nat.le_refl _)) (HRB.out.below hbx (Nat.le_refl _)) hvx hPx)
          have HMV := hide (fun v_ W (hW : Rd W v_ 4 x.length (chVals x)) => moved89 v_ x P (-1) W hW hx9 hPx (by omega) (by omega))
          clear hof hrx hfx hn hvx hbd
          go_wp2_with fail
          refine HS.out.mono ?_
          rintro e w3 ⟨⟨r, rfl, hcan⟩, hb3⟩
          have hbx3 := hbx.trans (hb3.mono hbx.size)
          cases r with
          | true =>
            have HC := hide (hcan.1 rfl)
            have HB3 := hide hb3
            clear hcan hb3 HS
            go_wp2_with fail
            refine (HMV.out _ _ (HRX.out.below HB3.out (Nat.le_refl _))).mono ?_
            rintro e w4 ⟨v4, rfl, ho4, hb4⟩
            have hfx2 := fits_up HFX.out HC.out
            have hcb := (HOF.out.next HC.out).bound (by omega) hPc HFC.out hfx2
            have HR4 := hide (Rd.of_own ho4)
            have HB4 := hide (hbx3.trans (hb4.mono hbx3.size))
            have HFX2 := hide hfx2
            clear ho4 hb4 hfx2
            go_wp2_with fail
            go_roundg (5000 - (c + 1))
            case measure => have := HN.out; omega
            case rel => exact ⟨c + 1, _, rfl, hcb, HOF.out.next HC.out, HFX2.out, by rw [mv_length]; exact HR4.out, HB4.out⟩
          | false =>
            have HC := hide (HOF.out.fin (fun h => by simpa using hcan.2 h))
            have HR3 := hide (HRX.out.below hb3 (Nat.le_refl _))
            clear hcan hb3 HS
            go_wp2_with fail
            go_roundw
            case rel => exact ⟨P + 1, x, by go_num, by have := HLEN.out; omega, HXL.out, fun s hs => HI.out s (by rw [show l.length - P = (l.length - (P + 1)) + 1 by have := HLEN.out; omega, List.range'_succ]; exact .cons P _ c cur x s HC.out hs), HFX.out, HR3.out, hbx3⟩
            case measure => have := HLEN.out; simp [intOf]; omega
      · have HE := hide (show l.length - P = 0 by have := HLEN.out; omega)
        have HX := HX0
        go_wp2_with (at_builtin; go_must (refine wp_appR rfl (.tmp 28) (.tmp 29) 23 45 4 32 _ rfl Try.underlying23 info45 rfl (by omega) (by omega) _ wo.heap.size 0 _ [] rfl (World.ownsRow_made wo #[] 0 (Nat.le_refl _) (by simp) rfl) Ax cur.length cx (chVals cur) rfl (HX.out.below ((Below.refl _ _).alloc (Nat.le_refl _) _) (Nat.le_refl _)) (chVals_one cur) (by omega) (by simp) ?_); intro vq W4 hoq hb4' hs4'; rw [Nat.zero_add, List.nil_append] at hoq; have HO := hide hoq; have HB := hide (((Below.refl wo.heap.size wo).alloc (Nat.le_refl _) (.cells #[] 45)).trans hb4'); obtain ⟨Aq, cq, rfl, hgq⟩ := own_open hoq; clear hoq hb4' hs4' hgq)
        go_returns
        exact .inr ⟨HF.out, cur, _, rfl, HI.out cur (by rw [HE.out]; exact .nil _), HFC.out, own_base HO.out hbel.size, hbel.trans (HB.out.mono hbel.size)⟩
end Go.Proofs.Ytagembkjmnfidaa
