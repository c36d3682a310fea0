import Derived.Test.YtagembkjmnfidaaTrkB
namespace Go.Proofs.Ytagembkjmnfidaa
open Go.RowKit
open Go.Proofs.Ml
set_option linter.unusedVariables false

/-- What Back hands back. -/
def BackRet (w : World) (r : Spn × Bool) (err : Int) (e : Ending) (w' : World) : Prop := e = .returned (.tuple #[spAgg r.1, .bool r.2, .int .i64 err]) ∧ Below w.heap.size w w'
theorem back_ret {w w' : World} {r : Spn × Bool} {err a b err' : Int} {c : Bool} (h : r = (⟨a, b⟩, c)) (he : err = err') (hb : Below w.heap.size w w') : BackRet w r err (.returned (.tuple #[.agg #[.int .i64 a, .int .i64 b], .bool c, .int .i64 err'])) w' := by
  subst h; subst he; exact ⟨rfl, hb⟩
theorem bk_err {l : List Chg} {m n : Int} {s : Spn} (h : tkRes l m n s = []) : bkRes l m n s = (⟨0, 0⟩, false) := by unfold bkRes; rw [h]; rfl
theorem tk_parts {l : List Chg} {m n : Int} {s : Spn} (h : tkErr l m n s = 0) : valid l m n = true ∧ tkRes l m n s = parts (mat 0 0 l m) s.f (tkLen s) := by simp [tkRes, h, (tk_zero h).1]

set_option maxRecDepth 100000 in
set_option maxHeartbeats 3200000 in
theorem back56 (v : Value) (l : List Chg) (m n : Int) (s : Spn) (w : World) (hr : Rd w v 4 l.length (chVals l)) (hl : l.length ≤ 900000) :
    Calls Try.prog 56 #[v, .int .i64 m, .int .i64 n, spAgg s] w (BackRet w (bkRes l m n s) (tkErr l m n s)) := by
  have hb0 : Below w.heap.size w ((w.alloc (.cells #[.int .i64 s.f, .int .i64 s.t] 35)).alloc (.cells #[.int .i64 0, .int .i64 0] 35)) := ((Below.refl _ _).alloc (Nat.le_refl _) _).alloc (by simp) _
  have HR0 := hide (hr.below hb0 (Nat.le_refl _))
  clear hr
  have HC := hide (fun W (hW : Rd W v 4 l.length (chVals l)) => part80 v l m n s W hW hl)
  by_cases h0 : tkErr l m n s = 0
  · obtain ⟨hv, hP⟩ := tk_parts h0
    have H0 := hide h0
    have hpa := mat_asc hv
    have hm := (valid_iff.1 hv).1
    have HPT := hide hP
    have HBK : Hid (bkRes l m n s = bk (tkRes l m n s)) := hide rfl
    have hull_ := fun K o b (h : BkInv (parts (mat 0 0 l m) s.f (tkLen s)) K o b) hK hn => h.hull hpa hK hn
    have hrng := fun j => part_range hpa j hm.1
    have hlen : (tkRes l m n s).length ≤ 4096 := by rw [hP, parts_length]; have := tk_zero h0; have := (valid_iff.1 hv).2.1; unfold tkLen; omega
    have hget := fun i (h : i < (parts (mat 0 0 l m) s.f (tkLen s)).length) => parts_get (mat 0 0 l m) s.f (tkLen s) i h
    have hrg := fun K o b (h : BkInv (parts (mat 0 0 l m) s.f (tkLen s)) K o b) (hK : K ≤ tkLen s) => h.range hpa hm.1 hK
    rw [← hP] at hull_ hget hrg
    have hkl : (tkRes l m n s).length = tkLen s := by rw [hP, parts_length]
    rw [← hkl] at hrg
    generalize tkRes l m n s = P at *
    have HU := hide hull_
    have HRG := hide (fun i (h : i < P.length) => show -1 ≤ P[i] ∧ P[i] ≤ m by rw [hget i h]; exact hrng _)
    have HRO := hide hrg
    obtain ⟨m0, m1⟩ := hm
    clear hv hP h0 hpa hull_ hrng hget hrg hkl
    obtain ⟨F, T⟩ := s
    simp only at HR0 hb0
    have HB0 := hide hb0
    clear hb0
    unfold spAgg
    unfold spAgg at HC
    go_enter Try.func56, Try.ntmps56
    go_wp2_with fail
    refine (HC.out _ HR0.out).mono ?_
    rintro e w1 ⟨pv, rfl, hown, hb1⟩
    rw [H0.out]
    have s0 := HB0.out.size
    have c1 := HB0.out.trans (hb1.mono s0)
    have s1 := c1.size
    have htw := (Two.new (w.alloc (.cells #[.int .i64 F, .int .i64 T] 35)) 35 (.int .i64 0) (.int .i64 0)).below hb1 (by simp)
    rw [show (w.alloc (.cells #[.int .i64 F, .int .i64 T] 35)).heap.size = w.heap.size + 1 by simp] at htw
    obtain ⟨Ap, cp, rfl, _, _, _, hAp⟩ := Rd.of_own hown
    have HTW := hide htw
    have hlt1 := htw.lt
    clear hown hb1 htw
    go_wp2_with fail
    go_loopw [14, 31] (fun f k wr => ∃ (K : Nat) (o : Spn) (b : Bool), K ≤ P.length ∧ k = .int .i64 K ∧ f = .bool b ∧ Two wr w1.heap.size 35 (.int .i64 o.f) (.int .i64 o.t) ∧ Below w1.heap.size w1 wr ∧ BkInv P K o b)
      (fun _ k _ => P.length - (intOf k).toNat)
    case atStart => exact ⟨0, ⟨0, 0⟩, false, by omega, rfl, rfl, Two.new w1 35 _ _, (Below.refl _ _).alloc (Nat.le_refl _) _, BkInv.start P⟩
    case round =>
      obtain ⟨K, o, b, hK, rfl, rfl, htwo, hbel, hinv⟩ := hrel
      have hbs := hbel.size
      have hsz := htwo.lt
      have l0 := htwo.c0
      have l1 := htwo.c1
      have z0 := htwo.z 0
      have z1 := htwo.z 1
      by_cases hlt : K < P.length
      · obtain ⟨bb, off, rfl, hb, hc⟩ := hAp (by omega)
        have hbw : bb < wr.heap.size := by omega
        have q0 := in_cells hc hb hbel hlt
        obtain ⟨r1, r2⟩ := HRG.out K hlt
        obtain ⟨o0, o1, o2, o3⟩ := HRO.out K o b hinv (by omega)
        have H1 := hide (fun h => hinv.no hlt h)
        have H2 := hide (fun h => hinv.yes hlt h)
        have H3 := hide (fun h => HU.out K o b hinv hlt h)
        have HT := hide htwo
        clear hinv hc hAp htwo
        generalize P[K] = i at *
        obtain ⟨oF, oT⟩ := o
        simp only at l0 l1 o0 o1 o2 o3 H1 H2 H3 HT
        by_cases hi : i < 0
        · have H4 := hide (H1.out hi)
          clear H1 H2 H3
          go_wp2_with fail
          go_roundw
          case rel => exact ⟨K + 1, ⟨oF, oT⟩, b, by omega, by go_num, rfl, HT.out, hbel, H4.out⟩
          case measure => simp [intOf]; omega
        · have hi0 : 0 ≤ i := by omega
          have H4 := hide (H2.out hi0)
          have H5 := hide (H3.out hi0)
          clear H1 H2 H3 hi
          go_wp2_with fail
          refine (hull60 ⟨oF, oT⟩ ⟨i, i + 1⟩ _).mono ?_
          rintro e w2 ⟨rfl, hb2⟩
          rw [H5.out]
          have ht2 := HT.out.below hb2 hsz
          have hsz2 := ht2.lt
          have y0 := ht2.c0
          have y1 := ht2.c1
          have x0 := ht2.z 0
          have x1 := ht2.z 1
          have HT2 := hide ht2
          have hbs2 := hb2.size
          unfold spAgg
          clear ht2 l0 l1 z0 z1
          go_wp2_with fail
          go_roundw
          case rel => exact ⟨K + 1, ⟨if b then oF else i, i + 1⟩, true, by omega, by go_num, rfl, HT2.out.set _ _, (((hbel.trans (hb2.mono hbs)).setCell (p := ⟨w1.heap.size, 0, none⟩) (Nat.le_refl _) _).setCell (p := ⟨w1.heap.size, 1, none⟩) (Nat.le_refl _) _), H4.out⟩
          case measure => simp [intOf]; omega
      · have hF := hide (hinv.fin (by omega))
        have htw2 := HTW.out.below hbel hlt1
        have y0 := htw2.c0
        have y1 := htw2.c1
        have x0 := htw2.z 0
        have x1 := htw2.z 1
        have hl2 := htw2.lt
        obtain ⟨oF, oT⟩ := o
        simp only at l0 l1 hF
        clear hinv hAp htwo htw2
        have HBL := hide hbel
        go_wp2_with fail
        refine bodyPost_ret (v := .tuple #[.agg #[.int .i64 oF, .int .i64 oT], .bool b, .int .i64 0]) (by simp [results, Try.results56, go_sem, y0, y1]) rfl ?_
        exact back_ret (by rw [HBK.out, hF.out]) H0.out (((c1.trans (HBL.out.mono s1)).setCell (p := ⟨w.heap.size + 1, 0, none⟩) (by simp) _).setCell (p := ⟨w.heap.size + 1, 1, none⟩) (by simp) _)
  · have hP : tkRes l m n s = [] := by simp [tkRes, h0]
    have HBK := hide (bk_err hP)
    have hne : ((tkErr l m n s != 0) : Bool) = true := by simp [h0]
    clear hP h0
    generalize tkErr l m n s = E at *
    obtain ⟨F, T⟩ := s
    simp only at HR0 hb0
    have HB0 := hide hb0
    clear hb0
    unfold spAgg
    unfold spAgg at HC
    go_enter Try.func56, Try.ntmps56
    go_wp2_with fail
    refine (HC.out _ HR0.out).mono ?_
    rintro e w1 ⟨pv, rfl, hown, hb1⟩
    have s0 := HB0.out.size
    have c1 := HB0.out.trans (hb1.mono s0)
    have htw := (Two.new (w.alloc (.cells #[.int .i64 F, .int .i64 T] 35)) 35 (.int .i64 0) (.int .i64 0)).below hb1 (by simp)
    rw [show (w.alloc (.cells #[.int .i64 F, .int .i64 T] 35)).heap.size = w.heap.size + 1 by simp] at htw
    have y0 := htw.c0
    have y1 := htw.c1
    have x0 := htw.z 0
    have x1 := htw.z 1
    have hl2 := htw.lt
    have HC1 := hide c1
    clear hown hb1 htw c1
    go_wp2_with fail
    refine bodyPost_ret (v := .tuple #[.agg #[.int .i64 0, .int .i64 0], .bool false, .int .i64 E]) (by simp [results, Try.results56, go_sem, y0, y1]) rfl ?_
    exact back_ret HBK.out rfl ((HC1.out.setCell (p := ⟨w.heap.size + 1, 0, none⟩) (by simp) _).setCell (p := ⟨w.heap.size + 1, 1, none⟩) (by simp) _)

theorem Two.set1 {w : World} {B : Nat} {t : TypeId} {x y : Value} (h : Two w B t x y) (y' : Value) : Two (w.setCell ⟨B, 1, none⟩ y') B t x y' := heap_set_at _ B 1 y' _ t (0, 0) h

set_option maxRecDepth 100000 in
set_option maxHeartbeats 3200000 in
theorem back57 (v : Value) (l : List Chg) (m n : Int) (s : Spn) (w : World) (hr : Rd w v 4 l.length (chVals l)) (hl : l.length ≤ 900000) :
    Calls Try.prog 57 #[v, .int .i64 m, .int .i64 n, spAgg s] w (BackRet w (bkRes l m n s) (tkErr l m n s)) := by
  have hb0 : Below w.heap.size w ((w.alloc (.cells #[.int .i64 s.f, .int .i64 s.t] 35)).alloc (.cells #[.int .i64 0, .int .i64 0] 35)) := ((Below.refl _ _).alloc (Nat.le_refl _) _).alloc (by simp) _
  have HR := hide hr
  have HR0 := hide (hr.below hb0 (Nat.le_refl _))
  clear hr
  have HC := hide (fun W (hW : Rd W v 4 l.length (chVals l)) => check81 v l m n s W hW hl)
  by_cases h0 : tkErr l m n s = 0
  · obtain ⟨hv, hP⟩ := tk_parts h0
    obtain ⟨_, f0, f1, f2⟩ := tk_zero h0
    have H0 := hide h0
    have hpa := mat_asc hv
    have hvv := valid_iff.1 hv
    have hm := hvv.1
    have hn := hvv.2.1
    have HBK : Hid (bkRes l m n s = bk (tkRes l m n s)) := hide rfl
    have hrng := fun j => part_range hpa j hm.1
    have hkl : (tkRes l m n s).length = tkLen s := by rw [hP, parts_length]
    have hget := fun i (h : i < (parts (mat 0 0 l m) s.f (tkLen s)).length) => parts_get (mat 0 0 l m) s.f (tkLen s) i h
    have hrg := fun K o b (h : BkInv (parts (mat 0 0 l m) s.f (tkLen s)) K o b) (hK : K ≤ tkLen s) => h.range hpa hm.1 hK
    rw [← hP] at hget hrg
    rw [← hkl] at hrg
    have HPA := hide (fun W (hW : Rd W v 4 l.length (chVals l)) j => partner82 v l m n j W hW hv hl)
    have hklT : s.f + ((tkRes l m n s).length : Int) = s.t := by rw [hkl]; unfold tkLen; omega
    generalize tkRes l m n s = P at *
    have HRG := hide (fun i (h : i < P.length) => show -1 ≤ P[i] ∧ P[i] ≤ m by rw [hget i h]; exact hrng _)
    have HGET := hide hget
    have HRO := hide hrg
    obtain ⟨m0, m1⟩ := hm
    obtain ⟨n0, n1⟩ := hn
    have hPl : P.length ≤ 4096 := by omega
    have HKT := hide hklT
    clear hv hP h0 hpa hrng hget hrg hkl hvv hklT
    obtain ⟨F, T⟩ := s
    simp only at HR0 hb0 f0 f1 f2 HKT HGET
    have HB0 := hide hb0
    clear hb0
    unfold spAgg
    unfold spAgg at HC
    go_enter Try.func57, Try.ntmps57
    go_wp2_with fail
    refine (HC.out _ HR0.out).mono ?_
    rintro e w1 ⟨rfl, hb1⟩
    rw [H0.out]
    have s0 := HB0.out.size
    have c1 := HB0.out.trans (hb1.mono s0)
    have s1 := c1.size
    have htw := (Two.new (w.alloc (.cells #[.int .i64 F, .int .i64 T] 35)) 35 (.int .i64 0) (.int .i64 0)).below hb1 (by simp)
    rw [show (w.alloc (.cells #[.int .i64 F, .int .i64 T] 35)).heap.size = w.heap.size + 1 by simp] at htw
    have hts := ((Two.new w 35 (.int .i64 F) (.int .i64 T)).alloc (.cells #[.int .i64 0, .int .i64 0] 35)).below hb1 (by simp; omega)
    have HTW := hide htw
    have HTS := hide hts
    have u0 := hts.c0
    have u1 := hts.c1
    have hlt1 := htw.lt
    have hlt0 := hts.lt
    clear hb1 htw hts
    go_wp2_with fail
    go_loopw [13, 14] (fun f j wr => ∃ (K : Nat) (o : Spn) (b : Bool), K ≤ P.length ∧ j = .int .i64 (F + (K : Int)) ∧ f = .bool b ∧ Two wr w1.heap.size 35 (.int .i64 o.f) (.int .i64 o.t) ∧ Below w1.heap.size w1 wr ∧ BkInv P K o b)
      (fun _ j _ => (T - intOf j).toNat)
    case atStart => exact ⟨0, ⟨0, 0⟩, false, by omega, by simp, rfl, Two.new w1 35 _ _, (Below.refl _ _).alloc (Nat.le_refl _) _, BkInv.start P⟩
    case round =>
      obtain ⟨K, o, b, hK, rfl, rfl, htwo, hbel, hinv⟩ := hrel
      have hbs := hbel.size
      have hsz := htwo.lt
      have cr := c1.trans (hbel.mono s1)
      have hts := HTS.out.below hbel hlt0
      have t0 := hts.c0
      have t1 := hts.c1
      by_cases hlt : K < P.length
      · have hlT : F + (K : Int) < T := by have := HKT.out; omega
        obtain ⟨r1, r2⟩ := HRG.out K hlt
        obtain ⟨o0, o1, o2, o3⟩ := HRO.out K o b hinv (by omega)
        have H1 := hide (fun h => hinv.no hlt h)
        have H2 := hide (fun h => hinv.yes hlt h)
        have HT := hide htwo
        have HG := hide (HGET.out K hlt)
        clear hinv htwo hts
        generalize P[K] = i at *
        obtain ⟨oF, oT⟩ := o
        simp only at o0 o1 o2 o3 H1 H2 HT
        go_wp2_with fail
        refine (HPA.out _ (HR.out.below cr (Nat.le_refl _)) _).mono ?_
        rintro e w2 ⟨rfl, hb2⟩
        rw [← HG.out]
        have ht2 := HT.out.below hb2 hsz
        have hsz2 := ht2.lt
        have y0 := ht2.c0
        have y1 := ht2.c1
        have x0 := ht2.z 0
        have x1 := ht2.z 1
        have HT2 := hide ht2
        have hb12 := hbel.trans (hb2.mono hbs)
        clear ht2 hb2 t0 t1
        by_cases hi : i < 0
        · have H4 := hide (H1.out hi)
          clear H1 H2
          go_wp2_with fail
          go_roundw
          case rel => exact ⟨K + 1, ⟨oF, oT⟩, b, by omega, by first | rfl | (congr 1; omega), rfl, HT2.out, hb12, H4.out⟩
          case measure => simp [intOf]; omega
        · have hi0 : 0 ≤ i := by omega
          have H4 := hide (H2.out hi0)
          clear H1 H2 hi
          cases b with
          | true =>
            go_wp2_with fail
            go_roundw
            case rel => exact ⟨K + 1, ⟨oF, i + 1⟩, true, by omega, by first | rfl | (congr 1; omega), rfl, HT2.out.set1 _, hb12.setCell (p := ⟨w1.heap.size, 1, none⟩) (Nat.le_refl _) _, H4.out⟩
            case measure => simp [intOf]; omega
          | false =>
            go_wp2_with fail
            go_roundw
            case rel => exact ⟨K + 1, ⟨i, i + 1⟩, true, by omega, by first | rfl | (congr 1; omega), rfl, HT2.out.set _ _, (hb12.setCell (p := ⟨w1.heap.size, 0, none⟩) (Nat.le_refl _) _).setCell (p := ⟨w1.heap.size, 1, none⟩) (Nat.le_refl _) _, H4.out⟩
            case measure => simp [intOf]; omega
      · have hlT : ¬ F + (K : Int) < T := by have := HKT.out; omega
        have hF := hide (hinv.fin (by omega))
        have htw2 := HTW.out.below hbel hlt1
        have y0 := htw2.c0
        have y1 := htw2.c1
        have x0 := htw2.z 0
        have x1 := htw2.z 1
        have l0 := htwo.c0
        have l1 := htwo.c1
        have hl2 := htw2.lt
        obtain ⟨oF, oT⟩ := o
        simp only at l0 l1 hF
        clear hinv htwo htw2 hts
        have HBL := hide cr
        go_wp2_with fail
        refine bodyPost_ret (v := .tuple #[.agg #[.int .i64 oF, .int .i64 oT], .bool b, .int .i64 0]) (by simp [results, Try.results57, go_sem, y0, y1]) rfl ?_
        exact back_ret (by rw [HBK.out, hF.out]) H0.out ((HBL.out.setCell (p := ⟨w.heap.size + 1, 0, none⟩) (by simp) _).setCell (p := ⟨w.heap.size + 1, 1, none⟩) (by simp) _)
  · have hP : tkRes l m n s = [] := by simp [tkRes, h0]
    have HBK := hide (bk_err hP)
    have hne : ((tkErr l m n s != 0) : Bool) = true := by simp [h0]
    clear hP h0
    generalize tkErr l m n s = E at *
    obtain ⟨F, T⟩ := s
    simp only at HR0 hb0
    have HB0 := hide hb0
    clear hb0
    unfold spAgg
    unfold spAgg at HC
    go_enter Try.func57, Try.ntmps57
    go_wp2_with fail
    refine (HC.out _ HR0.out).mono ?_
    rintro e w1 ⟨rfl, hb1⟩
    have s0 := HB0.out.size
    have c1 := HB0.out.trans (hb1.mono s0)
    have htw := (Two.new (w.alloc (.cells #[.int .i64 F, .int .i64 T] 35)) 35 (.int .i64 0) (.int .i64 0)).below hb1 (by simp)
    rw [show (w.alloc (.cells #[.int .i64 F, .int .i64 T] 35)).heap.size = w.heap.size + 1 by simp] at htw
    have y0 := htw.c0
    have y1 := htw.c1
    have x0 := htw.z 0
    have x1 := htw.z 1
    have hl2 := htw.lt
    have HC1 := hide c1
    clear hb1 htw c1
    go_wp2_with fail
    refine bodyPost_ret (v := .tuple #[.agg #[.int .i64 0, .int .i64 0], .bool false, .int .i64 E]) (by simp [results, Try.results57, go_sem, y0, y1]) rfl ?_
    exact back_ret HBK.out rfl ((HC1.out.setCell (p := ⟨w.heap.size + 1, 0, none⟩) (by simp) _).setCell (p := ⟨w.heap.size + 1, 1, none⟩) (by simp) _)
end Go.Proofs.Ytagembkjmnfidaa
