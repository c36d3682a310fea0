import Derived.Test.YtbjbcfiieacamaaGreatDoorTH
namespace Go.Proofs.YtbjbcfiieacamaaGreatDoor
open Go.RowKit
set_option linter.unusedVariables false

theorem Rd.belowOff {w w' : World} {g off n cap size B : Nat} {cs : List Value} (h : Rd w (.slice (some ⟨g, off, none⟩) n cap) size n cs) (hb : Below B w w') (hg : g < B) : Rd w' (.slice (some ⟨g, off, none⟩) n cap) size n cs := by
  obtain ⟨A', c', e, h1, h2, h3, h4⟩ := h
  injection e with e1 _ e3
  subst e1
  subst e3
  refine ⟨_, cap, rfl, h1, h2, h3, fun hn => ?_⟩
  obtain ⟨b, off, e, hbl, hc⟩ := h4 hn
  injection e with e
  injection e with e1 e2 _
  subst e1
  subst e2
  exact ⟨_, _, rfl, Nat.lt_of_lt_of_le hbl hb.size, fun j u hu => (hb.cell (p := ⟨g, _, none⟩) hg).trans (hc j u hu)⟩
theorem Rd.lt {w : World} {A : Option Addr} {n cap size : Nat} {cs : List Value} (h : Rd w (.slice A n cap) size n cs) (hn : 0 < n) (b o : Nat) (e : A = some ⟨b, o, none⟩) : b < w.heap.size := by
  obtain ⟨b', o', e', hb, _⟩ := h.at hn
  rw [e'] at e
  injection e with e
  injection e with e
  omega
theorem make59_1 (w : World) : (Instr.makeSlice 59 (.int .i64 1) (.int .i64 1)).run Tryz.prog w = .ok (.slice (some ⟨w.heap.size, 0, none⟩) 1 1) (w.alloc (.cells #[.int .u32 0] 77)) := by kernel_rfl
theorem make55_1 (w : World) : (Instr.makeSlice 55 (.int .i64 1) (.int .i64 1)).run Tryz.prog w = .ok (.slice (some ⟨w.heap.size, 0, none⟩) 1 1) (w.alloc (.cells #[.slice none 0 0] 22)) := by kernel_rfl
theorem lines_a : lines ⟨#[97]⟩ = [⟨#[97]⟩] := by decide +kernel
theorem lines_nil : lines ⟨#[]⟩ = [] := by decide +kernel
theorem step_app1k {P : Program} {ops : Array Oper} {o : Oper} {a : Act} {K : Act → World → Prop} {Q : Exit → Act → World → Prop} {E : Prop} {WW : World} (hgd : o.guard = none) (s x : Operand) (t e : TypeId) (size bytes : Nat) (z : Value)
    (ho : o.op = .call { callee := .builtin .append, args := #[s, x], argTypes := #[t, t] }) (ht : P.underlying t = some (.slice e))
    (hinfo : (P.info? e).map (fun i => (i.zero, i.size, i.bytes)) = some (some z, size, bytes)) (hzs : z.cells.size = size) (hsz : 0 < size) (hbytes : bytes ≤ 1000)
    (wr W : World) (base n : Nat) (v : Value) (xs : List Value) (hs : a.eval s = v) (news : Array Value) (H : Nat) (hx : a.eval x = .slice (some ⟨H, 0, none⟩) 1 1) (hH : W.heap.size = H) (hW : WW = W.alloc (.cells news e))
    (hown : wr.ownsRow base e size v n xs) (hkeep : W.ownsRow base e size v n xs) (hsize : wr.heap.size ≤ W.heap.size) (hl : news.size = size) (h1' : news.toList.all Value.oneCell' = true) (hn : n ≤ 1000000) (hbase : base ≤ wr.heap.size)
    (h : ∀ v' w', w'.ownsRow base e size v' (n + 1) (xs ++ news.toList) → Below base W w' → (∀ b, b < W.heap.size → some b ≠ v.ownBlock → w'.heap[b]? = W.heap[b]?) → W.heap.size < w'.heap.size → K (a.put o.dst v') w') :
    if Region.wanted o (yielded ops a.tmps) = true then Oper.wp P o a WW K Q else E := by
  have hw : Region.wanted o (yielded ops a.tmps) = true := by simp [Region.wanted, hgd]
  rw [if_pos hw]
  subst hW
  subst hH
  have h1 : ∀ u ∈ news.toList, u.oneCell' = true := List.all_eq_true.1 h1'
  obtain ⟨i0, hi, hz0, hz1, hz2⟩ := info_parts hinfo
  have hown2 : (W.alloc (.cells news e)).ownsRow base e size v n xs := hkeep.alloc _
  have hb0 : ∀ k, v.ownBlock = some k → base ≤ k ∧ k < wr.heap.size := hown.lt
  have hbn : (n + 1) * bytes ≤ 140737488355328 := Nat.le_trans (Nat.mul_le_mul (show n + 1 ≤ 1000001 by omega) hbytes) (by decide)
  refine wp_append_own (W.alloc (.cells news e)) s x t ho base e i0 z size bytes ht hi hz0 hz1 hz2 hzs hsz v n xs hs hown2 ⟨W.heap.size, 0, none⟩ 1 1 news.toList hx (by simpa using hl) ?_ h1 (by simp only [maxLen]; omega) hbn (by simp; omega) ?_
  · intro j u hu
    have hc := cell_of_row (W.alloc (.cells news e)) W.heap.size j news e (0, 0) (heap_alloc_new W _)
    rw [add_head, hc]
    simpa using hu
  · intro v' w' hown' hg _
    have hsz' := hg.size
    simp at hsz'
    refine h v' w' hown' ?_ ?_ (by omega)
    · refine ((Below.refl base W).alloc (by omega) _).grown hg (by simp; omega) fun k hk => (hb0 k hk).1
    · intro b h2 hne
      exact (hg.block b (by simp; omega) hne).trans (Below.heap_alloc W _ b h2)
/-- The gaps of the loom, behind the first and behind the second round. -/
def Gaps1 (wc : World) (L : Nat) (N Ln Kn : Value) (wx : World) : Prop := ∃ g cg p0, Blk wx L 62 #[N, Ln, Kn, .slice (some ⟨g, 0, none⟩) 1 cg, .int .i64 1, .slice none 0 0] ∧ wx.ownsRow wc.heap.size 55 1 (.slice (some ⟨g, 0, none⟩) 1 cg) 1 [.slice (some ⟨p0, 0, none⟩) 1 1] ∧ Blk wx p0 22 #[.slice none 0 0] ∧ wc.heap.size ≤ p0 ∧ (∀ x, x < wc.heap.size → x ≠ L → wx.heap[x]? = wc.heap[x]?) ∧ ∀ B, B ≤ L → B ≤ wc.heap.size → Below B wc wx
def Gaps2 (wc : World) (L : Nat) (N Ln Kn : Value) (wx : World) : Prop := ∃ g cg p0 p1, Blk wx L 62 #[N, Ln, Kn, .slice (some ⟨g, 0, none⟩) 2 cg, .int .i64 1, .slice none 0 0] ∧ wx.ownsRow wc.heap.size 55 1 (.slice (some ⟨g, 0, none⟩) 2 cg) 2 [.slice (some ⟨p0, 0, none⟩) 1 1, .slice (some ⟨p1, 0, none⟩) 1 1] ∧ Blk wx p0 22 #[.slice none 0 0] ∧ Blk wx p1 22 #[.slice none 0 0] ∧ wc.heap.size ≤ p0 ∧ wc.heap.size ≤ p1 ∧ p0 ≠ p1 ∧ (∀ x, x < wc.heap.size → x ≠ L → wx.heap[x]? = wc.heap[x]?) ∧ ∀ B, B ≤ L → B ≤ wc.heap.size → Below B wc wx
/-- The loom, behind its making. -/
def LoomAt (w : World) (B1 : Option Addr) (d1 : Nat) (s13 : Value) (wx : World) : Prop := ∃ L K An dn, s13 = .pointer (some ⟨L, 0, none⟩) ∧ Blk wx L 62 #[.slice An 1 dn, .slice B1 1 d1, .slice (some ⟨K, 0, none⟩) 1 1, .slice none 0 0, .int .i64 1, .slice none 0 0] ∧ Blk wx K 77 #[.int .u32 0] ∧ Rd wx (.slice An 1 dn) 1 1 [.string ⟨#[97]⟩] ∧ Below w.heap.size w wx ∧ w.heap.size ≤ L ∧ w.heap.size ≤ K ∧ ∀ b o, An = some ⟨b, o, none⟩ → b < L
def MakeRet (w : World) (e : Ending) (w' : World) : Prop := ∃ A c, e = .returned (.tuple #[.agg #[.int .i64 1, .slice A 1 c], .int .i64 0]) ∧ Rd w' (.slice A 1 c) 3 1 rowCells ∧ Below w.heap.size w w'

set_option maxRecDepth 100000 in
set_option maxHeartbeats 3200000 in
theorem make8_a (r p : ByteArray) (A : Option Addr) (c : Nat) (w : World) (hr : Rd w (.slice A 1 c) 1 1 [.string p]) (hm : Mx w) (kr : r.size ≤ 3000) (kp : p.size ≤ 3000) (hlr : lines r = [⟨#[97]⟩]) (hlp : lines p = []) :
    Calls Tryz.prog 8 #[.string r, .slice A 1 c] w (MakeRet w) := by
  obtain ⟨b, off, rfl, hb, hc⟩ := hr.at (by omega)
  have e0 : w.cell? ⟨b, off, none⟩ = some (.string p) := hc 0 _ rfl
  have HM := hide hm
  have hcp : ¬ 281474976710656 < Builtin.nextslicecap 2 1 * Tryz.t9.bytes := of_decide_eq_false (by kernel_rfl)
  clear hc hr hm
  go_enter Tryz.func8, Tryz.ntmps8
  go_wp2_with fail
  clear hcp e0
  obtain ⟨cp, hcd⟩ : ∃ cp, cp = (Question.appendCap 2 1 9).cut (w.tape w.drawn (Question.appendCap 2 1 9)) := ⟨_, rfl⟩
  have hp1 : 2 ≤ cp := by rw [hcd]; exact grownCap_ge w 2 1 9
  have hp2 : cp ≤ maxLen := by rw [hcd]; exact grownCap_le_maxLen w 2 1 9 (by decide)
  rw [← hcd]
  obtain ⟨w0, hw0⟩ : ∃ w0, w0 = ((w.alloc (.cells #[.int .i64 0, .slice none 0 0] 37)).alloc (.cells #[.string r] 9)).alloc (.cells (#[.string r, .string p] ++ Builtin.zeroCells #[.string ⟨#[]⟩] (cp - 2)) 9) := ⟨_, rfl⟩
  have HB0 := hide (show Below w.heap.size w w0 by rw [hw0]; exact (((Below.refl _ _).alloc (Nat.le_refl _) _).alloc (by simp) _).alloc (by simp; omega) _)
  have HT0 := hide (show Blk w0 w.heap.size 37 #[.int .i64 0, .slice none 0 0] by rw [hw0]; exact ((Blk.new w 37 _).alloc _).alloc _)
  have HS0 := hide (show Rd w0 (.slice (some ⟨w.heap.size + 1 + 1, 0, none⟩) 2 cp) 1 2 [.string r, .string p] by
    rw [hw0]
    refine ⟨_, cp, rfl, hp1, hp2, rfl, fun _ => ⟨_, 0, rfl, by simp, fun j u hu => ?_⟩⟩
    have hB := Blk.new ((w.alloc (.cells #[.int .i64 0, .slice none 0 0] 37)).alloc (.cells #[.string r] 9)) 9 (#[.string r, .string p] ++ Builtin.zeroCells #[.string ⟨#[]⟩] (cp - 2))
    rw [show ((w.alloc (.cells #[.int .i64 0, .slice none 0 0] 37)).alloc (.cells #[.string r] 9)).heap.size = w.heap.size + 1 + 1 by simp] at hB
    rw [Nat.zero_add, hB.cell, Array.getElem?_append_left (by simpa using (List.getElem?_eq_some_iff.1 hu).1)]
    simpa using hu)
  obtain ⟨R, hR⟩ : ∃ R, R = w.heap.size := ⟨_, rfl⟩
  obtain ⟨S, hS⟩ : ∃ S, S = w.heap.size + 1 + 1 := ⟨_, rfl⟩
  have s0 : w0.heap.size = S + 1 := by rw [hw0, hS]; simp
  rw [← hw0]
  rw [← hS] at HS0 ⊢
  rw [← hR] at HT0 ⊢
  have hRS : R < S := by omega
  have hwR : w.heap.size ≤ R := by omega
  clear hw0 hcd hR hS
  replace HM := hide (HM.out.self HB0.out)
  have lS := s0
  have LR := hide hlr
  have LP := hide hlp
  refine wp_loop_rounds 3 ?_
  rw [rounds_succ]
  have y0 : w0.cell? ⟨S, 0, none⟩ = some (.string r) := by
    obtain ⟨b_, o_, e_, _, hc_⟩ := HS0.out.at (by omega)
    injection e_ with e_
    injection e_ with e_ e2_ _
    subst e_
    subst e2_
    exact hc_ 0 _ rfl
  go_wp2_with fail
  refine (split16_ok r w0.drew kr HM.out).mono ?_
  rintro e v1 ⟨A0, c0, rfl, hr0, hb0⟩
  rw [hlr] at hr0 ⊢
  have HR0 := hide (show Rd v1 (.slice A0 1 c0) 1 1 [.string ⟨#[97]⟩] from hr0)
  have HV0 := hide (show Below w0.heap.size w0 v1 from ⟨hb0.os, hb0.tape, hb0.output, hb0.size, hb0.block⟩)
  have z0 := HV0.out.size
  clear hr0 hb0 y0
  have HSv := hide (HS0.out.below HV0.out (Nat.le_refl _))
  have HTv := hide (HT0.out.below HV0.out HT0.out.lt)
  have HMv := hide (HM.out.self HV0.out)
  rw [show ([⟨#[97]⟩] : List ByteArray).length = 1 from rfl]
  go_wp2_with (at_builtin; go_must (refine wp_app0 rfl (.tmp 44) (.tmp 46) 26 24 1 24 _ rfl Tryz.underlying26 info24 rfl (by omega) (by omega) v1 rfl _ _ rfl rfl rfl rfl ?_); intro gF1 cF1 w1 hF1a hF1b hF1s hF1r hF1o hF1; have HF1 := hide hF1o; have HX1 := hide hF1; have HFR1 := hide hF1r; clear hF1r hF1o hF1)
  have HW1 := hide ((HB0.out.trans (HV0.out.mono HB0.out.size)).trans (HX1.out.mono (Nat.le_trans HB0.out.size z0)))
  have HS1 := hide (HSv.out.below HX1.out (Nat.le_refl _))
  have HT1 := hide (HTv.out.below HX1.out HTv.out.lt)
  replace HM := hide (HMv.out.self HX1.out)
  clear HSv HTv HMv
  rw [rounds_succ]
  have y1 : w1.cell? ⟨S, 1, none⟩ = some (.string p) := by
    obtain ⟨b_, o_, e_, _, hc_⟩ := HS1.out.at (by omega)
    injection e_ with e_
    injection e_ with e_ e2_ _
    subst e_
    subst e2_
    exact hc_ 1 _ rfl
  go_wp2_with fail
  refine (split16_ok p w1 kp HM.out).mono ?_
  rintro e v2 ⟨A1, c1, rfl, hr1, hb1⟩
  rw [hlp] at hr1 ⊢
  have HR1 := hide hr1
  have HV1 := hide (show Below w1.heap.size w1 v2 from ⟨hb1.os, hb1.tape, hb1.output, hb1.size, hb1.block⟩)
  have z1 := HV1.out.size
  clear hr1 hb1 y1
  have HSv := hide (HS1.out.below HV1.out (Nat.le_refl _))
  have HTv := hide (HT1.out.below HV1.out HT1.out.lt)
  have HMv := hide (HM.out.self HV1.out)
  rw [show ([] : List ByteArray).length = 0 from rfl]
  have HFv := hide (own_below HF1.out HV1.out (Nat.le_refl _))
  have zv : v1.heap.size ≤ v2.heap.size := by omega
  go_wp2_with (at_builtin; go_must (refine wp_app1k rfl (.tmp 44) (.tmp 46) 26 24 1 24 _ rfl Tryz.underlying26 info24 rfl (by omega) (by omega) v2 _ v1.heap.size 1 _ _ rfl _ _ rfl rfl HFv.out HFv.out (Nat.le_refl _) rfl rfl (by omega) zv ?_); intro vF2 w2 hF2 hX2 hK2 hF2s; have HF2 := hide hF2; have HX2 := hide hX2; have HFR2 := hide (Rd.of_own hF2); obtain ⟨AF2, cF2, rfl, hgF2⟩ := own_open hF2; clear hF2 hX2 hK2)
  have zw0 := HB0.out.size
  have lS1 : S < v1.heap.size := by omega
  have HW2 := hide ((HW1.out.trans (HV1.out.mono HW1.out.size)).trans (HX2.out.mono (by omega)))
  have HS2 := hide (HSv.out.belowAt HX2.out lS1)
  have HT2 := hide (HTv.out.below HX2.out (by omega))
  replace HM := hide (HMv.out.below HX2.out (by omega))
  clear HSv HTv HMv HFv
  rw [rounds_succ]
  go_wp2_with fail
  have HFL := hide (show Rd w2 (.slice AF2 2 cF2) 1 2 [.slice A0 1 c0, .slice A1 0 c1] from HFR2.out)
  obtain ⟨b0, o0, rfl, hb0, _⟩ := HR0.out.at (by omega)
  have HL0 := hide (Rd.belowOff ((HR0.out.below HX1.out (Nat.le_refl _)).below HV1.out (Nat.le_refl _)) HX2.out hb0)
  refine (ids17 w2 AF2 (some ⟨b0, o0, none⟩) A1 cF2 c0 c1 HFL.out HL0.out).mono ?_
  rintro e w3 ⟨O, B1, d1, rfl, hI, hBB, hb3⟩
  have zw2 := HW2.out.size
  have HW3 := hide (HW2.out.trans (hb3.mono zw2))
  have HI3 := hide hI
  have HB3 := hide hBB
  have HFL3 := hide (HFL.out.below hb3 (Nat.le_refl _))
  have HL03 := hide (HL0.out.below hb3 (Nat.le_refl _))
  have HNAM := hide (fun X (hX : Below w3.heap.size w3 X) => names18 X AF2 (some ⟨b0, o0, none⟩) A1 cF2 c0 c1 (HFL3.out.below hX (Nat.le_refl _)) (HL03.out.below hX (Nat.le_refl _)))
  have HR3 := hide (HT2.out.below hb3 HT2.out.lt)
  obtain ⟨bi, oi, ei, lO, hci⟩ := hI.at (by omega)
  injection ei with ei
  injection ei with ei ei2 _
  subst ei
  subst ei2
  have i0 : w3.cell? ⟨O, 0, none⟩ = some (.slice B1 1 d1) := hci 0 _ rfl
  have i1 : w3.cell? ⟨O, 1, none⟩ = some (.slice none 0 0) := hci 1 _ rfl
  have SS := hide (show ∀ X, Below w3.heap.size w3 X → Below w3.heap.size w3 X ∧ X.cell? ⟨O, 0, none⟩ = some (.slice B1 1 d1) from fun X hX => ⟨hX, (hX.cell (p := ⟨O, 0, none⟩) lO).trans i0⟩)
  clear hci hI hBB hb3
  go_wp2_with fail
  go_cut [13] (fun s13 wx => LoomAt w3 B1 d1 s13 wx)
  case first =>
    have hmk := make59_1
    go_region_held3 (fun X => Below w3.heap.size w3 X ∧ X.cell? ⟨O, 0, none⟩ = some (.slice B1 1 d1))
      (first | exact SS.out _ (Below.refl _ _).drew | exact SS.out _ hbk | exact SS.out _ ((Below.refl _ _).alloc (Nat.le_refl _) _).drew | exact SS.out _ ((‹Below w3.heap.size w3 _ ∧ _›).1.alloc (‹Below w3.heap.size w3 _ ∧ _›).1.size _))
      (first | (go_at_call 18; refine (HNAM.out _ (‹Below w3.heap.size w3 _ ∧ _›).1).mono ?_; rintro e w4 ⟨An, dn, rfl, hn, hb4⟩; have HN4 := hide hn; have hbk := (‹Below w3.heap.size w3 _ ∧ _›).1.trans (hb4.mono (‹Below w3.heap.size w3 _ ∧ _›).1.size); have HB4 := hide hb4; clear hn hb4))
    all_goals
      go_wp2_with fail
      go_meet
    · refine ⟨w4.heap.size + 1, w4.heap.size, An, dn, rfl, ?_, (Blk.new w4 77 _).alloc _, (HN4.out.alloc _).alloc _, (hbk.alloc hbk.size _).alloc (by have := hbk.size; simp; omega) _, (by have := hbk.size; omega), hbk.size, fun b o e => by have := HN4.out.lt (by omega) b o e; omega⟩
      have h := Blk.new (w4.alloc (.cells #[.int .u32 0] 77)) 62 #[.slice An 1 dn, .slice B1 1 d1, .slice (some ⟨w4.heap.size, 0, none⟩) 1 1, .slice none 0 0, .int .i64 1, .slice none 0 0]
      simpa using h
    · have hk : Blk w4 w3.heap.size 77 #[.int .u32 0] := (HB4.out.block w3.heap.size (by show w3.heap.size < (w3.alloc _).heap.size; simp)).trans (Blk.new w3 77 #[.int .u32 0])
      exact ⟨w4.heap.size, w3.heap.size, An, dn, rfl, Blk.new w4 62 _, hk.alloc _, HN4.out.alloc _, hbk.alloc hbk.size _, hbk.size, Nat.le_refl _, fun b o e => HN4.out.lt (by omega) b o e⟩
  case rest =>
    obtain ⟨wa, rfl⟩ : ∃ wa : World, wa = wc := ⟨_, rfl⟩
    obtain ⟨L, K, An, dn, rfl, hL, hK, hN, hbx, hwL, hwK, hAL⟩ := hcut
    obtain ⟨bn, on, rfl, hbn, hcn⟩ := hN.at (by omega)
    have nbL : bn ≠ L := Nat.ne_of_lt (hAL bn on rfl)
    have nBb := fun bb oo (e : B1 = some ⟨bb, oo, none⟩) => HB3.out.lt (by omega) bb oo e
    have n0 : wa.cell? ⟨bn, on, none⟩ = some (.string ⟨#[97]⟩) := hcn 0 _ rfl
    have hB1c := HB3.out.below hbx (Nat.le_refl _)
    have hd1 : 1 ≤ d1 := hB1c.len.1
    obtain ⟨bb, oo, rfl, hbb, hcb⟩ := hB1c.at (by omega)
    have b0c : wa.cell? ⟨bb, oo, none⟩ = some (.int .i64 0) := hcb 0 _ rfl
    have zw3 := HW3.out.size
    have HWc := hide (HW3.out.trans (hbx.mono zw3))
    have HRc := hide (HR3.out.below hbx HR3.out.lt)
    have o0c := (hbx.cell (p := ⟨O, 0, none⟩) lO).trans i0
    have o1c := (hbx.cell (p := ⟨O, 1, none⟩) lO).trans i1
    have lOc : O < wa.heap.size := Nat.lt_of_lt_of_le lO hbx.size
    have lLc := hL.lt
    have lKc := hK.lt
    have lRc := HRc.out.lt
    have nOL : O ≠ L := by omega
    have nbbL : bb ≠ L := by have := nBb bb oo rfl; omega
    have nbbK : bb ≠ K := by have := nBb bb oo rfl; omega
    have nOK : O ≠ K := by omega
    have HLc := hide hL
    have HKc := hide hK
    have nLK : L ≠ K := by rintro rfl; unfold Blk at hL hK; rw [hK] at hL; cases hL
    have nRL : R ≠ L := by have h := HRc.out; rintro rfl; unfold Blk at hL h; rw [h] at hL; cases hL
    clear hcn hcb hB1c hL hK hN hbx i0 i1
    clear hAL nBb
    have hmk := make55_1
    have l3 : wa.cell? ⟨L, 3, none⟩ = some (.slice none 0 0) := HLc.out.cell 3
    go_wp2_with fail
    refine wp_loop_rounds 3 ?_
    rw [rounds_succ]
    go_upto_block 3 with fail
    go_cut [] (fun wx => Gaps1 wa L (.slice (some ⟨bn, on, none⟩) 1 dn) (.slice (some ⟨bb, oo, none⟩) 1 d1) (.slice (some ⟨K, 0, none⟩) 1 1) wx)
    case first =>
      go_wp2_with fail
      go_region_law (first
        | (refine step_app1k rfl (.tmp 76) (.tmp 79) 60 55 1 24 _ (by rfl) Tryz.underlying60 info55 rfl (by omega) (by omega) (wa.alloc (.cells #[.slice none 0 0] 22)).drew (wa.alloc (.cells #[.slice none 0 0] 22)).drew wa.heap.size 0 _ [] (by rfl) #[.slice (some ⟨wa.heap.size, 0, none⟩) 1 1] (wa.heap.size + 1) (by rfl) (by simp) (by rfl) (World.ownsRow_nil _ _ _ _) (World.ownsRow_nil _ _ _ _) (Nat.le_refl _) rfl rfl (by omega) (by simp) ?_; intro v5 w5 hown5 hb5 hk5 hs5; have HL5 := hide (show Blk w5 L 62 _ from (hb5.block L lLc).trans ((Below.heap_alloc wa _ L lLc).trans HLc.out)); have fz5 := HL5.out.frozen 3; have ce5 : w5.cell? ⟨L, 3, none⟩ = some (.slice none 0 0) := HL5.out.cell 3; have HB5 := hide hb5; have HK5 := hide hk5; have HOWN5 := hide hown5; obtain ⟨A5, c5, rfl, hg5⟩ := own_open hown5; have HX5 := hide hg5; clear hk5 hg5 hown5 hb5))
      all_goals
        go_wp2_with fail
        go_meet
        obtain ⟨g5, rfl, hg5a, hg5b⟩ := HX5.out (by omega)
        have hP0 : Blk w5 wa.heap.size 22 #[.slice none 0 0] := (HK5.out wa.heap.size (by show wa.heap.size < (wa.alloc _).heap.size; simp) (by simp [Value.ownBlock])).trans (Blk.new wa 22 #[.slice none 0 0])
        refine ⟨g5, c5, wa.heap.size, HL5.out.set_ 3 _, HOWN5.out.kept (only_setCell (only_refl _ (some L)) rfl _) (.inr (by simp [Value.ownBlock]; omega)), hP0.far (p := ⟨L, 3, none⟩) (by show wa.heap.size ≠ L; omega) _, Nat.le_refl _, fun x hx hxL => ?_, fun B hBL hBw => ?_⟩
        · exact (Below.heap_setCell w5 ⟨L, 3, none⟩ _ x hxL).trans ((HB5.out.block x hx).trans (Below.heap_alloc wa _ x hx))
        · exact (((Below.refl B wa).alloc hBw _).drew.trans (HB5.out.mono hBw)).setCell (p := ⟨L, 3, none⟩) hBL _
    case rest =>
      obtain ⟨wb, rfl⟩ : ∃ wb : World, wb = wc := ⟨_, rfl⟩
      obtain ⟨g, cg, q0, hL1, ho1, hq0, hwq, hk1, hb1⟩ := hcut
      have HL1 := hide hL1
      have HO1 := hide ho1
      have HQ0 := hide hq0
      have HK1 := hide hk1
      have HB1 := hide hb1
      have HgB := ho1.lt
      have lL1 := hL1.lt
      have lq0 := hq0.lt
      have m3 : wb.cell? ⟨L, 3, none⟩ = some (.slice (some ⟨g, 0, none⟩) 1 cg) := hL1.cell 3
      have zab := (hb1 0 (Nat.zero_le _) (Nat.zero_le _)).size
      obtain ⟨hga, hgb⟩ := HgB g rfl
      have ng : q0 ≠ g := by
        rintro rfl
        have := own_other ho1 hq0 (by decide)
        simp [Value.ownBlock] at this
      clear hL1 ho1 hq0 hk1 hb1 HgB l3
      go_wp2_with fail
      rw [rounds_succ]
      go_upto_block 3 with fail
      go_cut [] (fun wx => Gaps2 wa L (.slice (some ⟨bn, on, none⟩) 1 dn) (.slice (some ⟨bb, oo, none⟩) 1 d1) (.slice (some ⟨K, 0, none⟩) 1 1) wx)
      case first =>
        go_wp2_with fail
        go_region_law (first
          | (refine step_app1k rfl (.tmp 76) (.tmp 79) 60 55 1 24 _ (by rfl) Tryz.underlying60 info55 rfl (by omega) (by omega) wb (wb.alloc (.cells #[.slice none 0 0] 22)).drew wa.heap.size 1 _ _ (by rfl) #[.slice (some ⟨wb.heap.size, 0, none⟩) 1 1] (wb.heap.size + 1) (by rfl) (by simp) (by rfl) HO1.out (HO1.out.alloc _) (by simp) rfl rfl (by omega) zab ?_; intro v5 w5 hown5 hb5 hk5 hs5; have HL5 := hide (show Blk w5 L 62 _ from (hk5 L (by show L < (wb.alloc _).heap.size; simp; omega) (by simp [Value.ownBlock]; omega)).trans ((Below.heap_alloc wb _ L lL1).trans HL1.out)); have fz5 := HL5.out.frozen 3; have ce5 : w5.cell? ⟨L, 3, none⟩ = some (.slice (some ⟨g, 0, none⟩) 1 cg) := HL5.out.cell 3; have HB5 := hide hb5; have HK5 := hide hk5; have HOWN5 := hide hown5; obtain ⟨A5, c5, rfl, hg5⟩ := own_open hown5; have HX5 := hide hg5; clear hk5 hg5 hown5 hb5))
        all_goals
          go_wp2_with fail
          go_meet
          obtain ⟨g5, rfl, hg5a, hg5b⟩ := HX5.out (by omega)
          have hP1 : Blk w5 wb.heap.size 22 #[.slice none 0 0] := (HK5.out wb.heap.size (by show wb.heap.size < (wb.alloc _).heap.size; simp) (by simp [Value.ownBlock]; omega)).trans (Blk.new wb 22 #[.slice none 0 0])
          have hP0 : Blk w5 q0 22 #[.slice none 0 0] := (HK5.out q0 (by show q0 < (wb.alloc _).heap.size; simp; omega) (by simp [Value.ownBlock]; omega)).trans ((Below.heap_alloc wb _ q0 lq0).trans HQ0.out)
          refine ⟨g5, c5, q0, wb.heap.size, HL5.out.set_ 3 _, HOWN5.out.kept (only_setCell (only_refl _ (some L)) rfl _) (.inr (by simp [Value.ownBlock]; omega)), hP0.far (p := ⟨L, 3, none⟩) (by show q0 ≠ L; omega) _, hP1.far (p := ⟨L, 3, none⟩) (by show wb.heap.size ≠ L; omega) _, hwq, zab, (by omega), fun x hx hxL => ?_, fun B hBL hBw => ?_⟩
          · exact (Below.heap_setCell w5 ⟨L, 3, none⟩ _ x hxL).trans ((HB5.out.block x hx).trans ((Below.heap_alloc wb _ x (by omega)).trans (HK1.out x hx hxL)))
          · exact ((((HB1.out B hBL hBw).alloc (by omega) _).drew).trans (HB5.out.mono hBw)).setCell (p := ⟨L, 3, none⟩) hBL _
      case rest =>
        obtain ⟨wd, rfl⟩ : ∃ wd : World, wd = wc := ⟨_, rfl⟩
        obtain ⟨G, cG, p0, p1, hL2, ho2, hp0, hp1, hwp0, hwp1, np01, hk2, hb2⟩ := hcut
        have zad := (hb2 0 (Nat.zero_le _) (Nat.zero_le _)).size
        obtain ⟨hGa, hGb⟩ := ho2.lt G rfl
        have hRdG := Rd.of_own ho2
        obtain ⟨_, _, eG, _, hcG⟩ := hRdG.at (by omega)
        injection eG with eG
        injection eG with eG eG2 _
        subst eG
        subst eG2
        have g0 : wd.cell? ⟨G, 0, none⟩ = some (.slice (some ⟨p0, 0, none⟩) 1 1) := hcG 0 _ rfl
        have g1 : wd.cell? ⟨G, 1, none⟩ = some (.slice (some ⟨p1, 0, none⟩) 1 1) := hcG 1 _ rfl
        have hK2 : Blk wd K 77 #[.int .u32 0] := (hk2 K lKc (Ne.symm nLK)).trans HKc.out
        have nbK : bn ≠ K := by
          rintro rfl
          have h := HKc.out.cell on
          rw [n0] at h
          cases on with
          | zero => simp at h
          | succ k => simp at h
        have nRK : R ≠ K := by have h := HRc.out; have h2 := HKc.out; rintro rfl; unfold Blk at h h2; rw [h] at h2; cases h2
        have nLp0 : L ≠ p0 := by omega
        have nGp0 : G ≠ p0 := by
          rintro rfl
          have := own_other ho2 hp0 (by decide)
          simp [Value.ownBlock] at this
        have o1d : wd.cell? ⟨O, 1, none⟩ = some (.slice none 0 0) := (World.cell?_of_block (hk2 O lOc nOL)).trans o1c
        have HADD := hide (add19 wd L K G p0 p1 bb oo d1 cG (.slice (some ⟨bn, on, none⟩) 1 dn) hd1 hL2 hK2 g0 hGb (by omega) hp0)
        have n0d : wd.cell? ⟨bn, on, none⟩ = some (.string ⟨#[97]⟩) := (World.cell?_of_block (hk2 bn hbn nbL)).trans n0
        have b0d : wd.cell? ⟨bb, oo, none⟩ = some (.int .i64 0) := (World.cell?_of_block (hk2 bb hbb nbbL)).trans b0c
        have HRd := hide (show Blk wd R 37 _ from (hk2 R lRc nRL).trans HRc.out)
        have HL2 := hide hL2
        have HP1 := hide hp1
        have HB2 := hide hb2
        have lL2 := hL2.lt
        have lp1 := hp1.lt
        have lR2 := HRd.out.lt
        have HG0 := hide g0
        have HG1 := hide g1
        have HN0 := hide n0d
        have HB0d := hide b0d
        clear hcG hRdG hL2 ho2 hp0 hp1 hk2 hb2 hK2 m3 n0 b0c o0c o1c g0 g1 n0d b0d
        go_wp2_with fail
        rw [rounds_succ]
        go_wp2_with fail
        refine wp_loop_rounds 2 ?_
        rw [rounds_succ]
        go_wp2_with fail
        refine HADD.out.mono ?_
        rintro e w7 ⟨rfl, hK7, hp7, ht7, hb7⟩
        have hL7 : Blk w7 L 62 _ := (ht7 L lL2 nLK nLp0).trans HL2.out
        have hp17 : Blk w7 p1 22 _ := (ht7 p1 lp1 (by omega) (Ne.symm np01)).trans HP1.out
        have g07 := (World.cell?_of_block (a := ⟨G, 0, none⟩) (ht7 G hGb (by omega) nGp0)).trans HG0.out
        have g17 := (World.cell?_of_block (a := ⟨G, 1, none⟩) (ht7 G hGb (by omega) nGp0)).trans HG1.out
        have n07 := (World.cell?_of_block (a := ⟨bn, on, none⟩) (ht7 bn (by omega) nbK (by omega))).trans HN0.out
        have b07 := (World.cell?_of_block (a := ⟨bb, oo, none⟩) (ht7 bb (by omega) nbbK (by omega))).trans HB0d.out
        have hR7 : Blk w7 R 37 _ := (ht7 R lR2 nRK (by omega)).trans HRd.out
        have z7 := (hb7 0 (Nat.zero_le _) (Nat.zero_le _) (Nat.zero_le _)).size
        have HWV := hide (weave20 w7 L K G p0 p1 bn on dn bb oo d1 cG hL7 hK7 n07 (by omega) b07 (by omega) g07 g17 (by omega) (by omega) hp7 hp17)
        have HR7 := hide hR7
        have HB7 := hide hb7
        have lR7 := hR7.lt
        clear hL7 hp17 g07 g17 n07 b07 hR7 hK7 hp7 ht7 hb7 HADD
        go_wp2_with fail
        rw [rounds_succ]
        go_wp2_with fail
        refine HWV.out.mono ?_
        rintro e w8 ⟨rfl, A8, c8, hL8, hR8, hx8, hb8⟩
        have hRL : R < L := by have := HR3.out.lt; omega
        have HRb := hide (show Blk w8 R 37 _ from (hb8 L (Nat.le_refl _) (by omega)).block R hRL |>.trans HR7.out)
        have x4 : w8.cell? ⟨L, 4, none⟩ = some (.int .i64 1) := hL8.cell 4
        have x5 : w8.cell? ⟨L, 5, none⟩ = some (.slice A8 1 c8) := hL8.cell 5
        have r0 : w8.cell? ⟨R, 0, none⟩ = some (.int .i64 0) := HRb.out.cell 0
        have r1 : w8.cell? ⟨R, 1, none⟩ = some (.slice none 0 0) := HRb.out.cell 1
        have f0 := HRb.out.frozen 0
        have f1 := HRb.out.frozen 1
        have HTf := (HRb.out.set_ 0 (.int .i64 1)).set_ 1 (.slice A8 1 c8)
        have q0f : ((w8.setCell ⟨R, 0, none⟩ (.int .i64 1)).setCell ⟨R, 1, none⟩ (.slice A8 1 c8)).cell? ⟨R, 0, none⟩ = some (.int .i64 1) := HTf.cell 0
        have q1f : ((w8.setCell ⟨R, 0, none⟩ (.int .i64 1)).setCell ⟨R, 1, none⟩ (.slice A8 1 c8)).cell? ⟨R, 1, none⟩ = some (.slice A8 1 c8) := HTf.cell 1
        have HR8 := hide hR8
        have HX8 := hide hx8
        have HB8 := hide hb8
        clear HTf hL8 hR8 hx8 hb8
        go_wp2_with fail
        refine bodyPost_ret (v := .tuple #[.agg #[.int .i64 1, .slice A8 1 c8], .int .i64 0]) (by simp [results, Tryz.results8, go_sem, q0f, q1f]) rfl ⟨A8, c8, rfl, (HR8.out.far (p := ⟨R, 0, none⟩) (fun _ b o e => ?_) _).far (p := ⟨R, 1, none⟩) (fun _ b o e => ?_) _, ?_⟩
        · have := HX8.out b o e; show b ≠ R; omega
        · have := HX8.out b o e; show b ≠ R; omega
        · have hwL : w.heap.size ≤ L := by omega
          exact ((((HWc.out.trans (HB2.out _ hwL (by omega))).trans (HB7.out _ (by omega) (by omega) (by omega))).trans (HB8.out _ hwL (by omega))).setCell (p := ⟨R, 0, none⟩) hwR _).setCell (p := ⟨R, 1, none⟩) hwR _
end Go.Proofs.YtbjbcfiieacamaaGreatDoor
