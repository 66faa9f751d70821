import Derived.Test.YtemlofepmphgiaaJd
/-! take, where more comes, or too much. -/
set_option linter.unusedSimpArgs false
set_option linter.unusedVariables false
set_option maxHeartbeats 4000000
set_option maxRecDepth 100000
namespace Go.Proofs.Ytemlofepmphgiaa
open Go.RowKit


theorem take_nil (s : Rd) (g z y : Nat) (most : Int) (alone : Bool) (c : UInt8) (hn : Nm s g z y) (he : endC s alone c = false) (hs : s.skip = false) (hf : ¬ (s.b.length : Int) < most) (hk : s.cr = true ∨ (c == 13) = false) : InTo Try.prog 18 [.ptr g 0, .int .u8 c.toNat] (hsL s g z y most alone) (fun _ => .tup []) (fun nb => [(g, some (.box (Rd.cs ⟨[], (c == 13), true, s.out⟩ 0 y most alone)))]) := by
  refine inTo_of mixed Try.func18 rfl Try.ntmps18 Try.results18 (by kernel_rfl) (by kernel_rfl) (by simp) (fun nb x hx => ?_) [] (fun H0 N0 nb hH0 hN0 => ?_)
  · simp only [List.mem_singleton] at hx
    subst hx
    exact .inl (hs_g ..)
  have hbg := beg_of hH0
  have hbox := hbg.box
  have hcz := cell_z hbg hn
  have hcy := cell_y hbg hn
  have hgb := hbg.gb
  have hgN := hbg.gN
  have hz := hbg.hz
  have hy := hbg.hy
  have f1 : 2 ≤ z → (g = z) = False := fun h => eq_false (hn.gz h)
  have f2 : 2 ≤ z → (z = g) = False := fun h => eq_false (fun e => hn.gz h e.symm)
  simp only [Rd.cs] at hbox hcz hcy
  obtain ⟨b, cr, skip, out⟩ := s
  simp only at hs
  subst hs
  have n0 : Nm ⟨[], false, true, out⟩ g 0 y := ⟨.inl ⟨rfl, rfl⟩, hn.y0, fun h => by omega, hn.gy, fun h => by omega⟩
  cases cr with
  | false =>
    have h13 : (c == 13) = false := by
      rcases hk with hk | hk
      · cases hk
      · exact hk
    cases h10 : (c == 10) with
    | true =>
      obtain ⟨_, rfl⟩ := noend he h10
      try simp (disch := omega) only [hbox, c10, c13, h10, h13, ne_far, ne_far', ne_at, ne_at', far_far, far_at, at_far, lt_far, ↓Wd0, Wr0, Wr1, opnds, ofVal, ofValC, PV.cells, PV.one, PV.fit, partE, setL, pickE, intE, strE, eqC, eqCs, kindOK, aggEqE, binE, unaE, convE, fieldE, faddrE, iaddrE, indexE, loE, sliceE, nilE, fillP, buildE, elemsE, bslE, lenE, appE, stripC, strip1, strip1L, strip, tupV, resV, convT, convN, sliceB, sliceA, sliceO, convB, clearE, appB, lookE, insE, keyOK, rangeE, reduceCtorEq, ↓reduceIte, Nat.reduceAdd, Nat.reduceMul, Nat.reduceSub, Nat.reduceEqDiff, Nat.reduceLeDiff, Nat.reduceBEq, Int.reduceToNat, Nat.reduceLT, Int.reduceBEq, Int.reduceBNe, Int.reduceLT, Int.reduceLE, Int.reduceGT, Int.reduceGE, UInt8.reduceToNat, Int.reduceNeg, Int.reduceAdd, Int.reduceSub, Wt]
      refine inD (put_full ⟨b, false, false, out⟩ g z y most _ c (hn.to rfl rfl) rfl hf) (Hv.hs (s := ⟨b, false, false, out⟩) (y := y) (z := z) (most := most) (hbg.toHv.set (s' := ⟨b, false, false, out⟩) hn rfl rfl rfl)) ?_
      try simp (disch := omega) only [hbox, c10, c13, h10, h13, ne_far, ne_far', ne_at, ne_at', far_far, far_at, at_far, lt_far, ↓Wd0, Wr0, Wr1, opnds, ofVal, ofValC, PV.cells, PV.one, PV.fit, partE, setL, pickE, intE, strE, eqC, eqCs, kindOK, aggEqE, binE, unaE, convE, fieldE, faddrE, iaddrE, indexE, loE, sliceE, nilE, fillP, buildE, elemsE, bslE, lenE, appE, stripC, strip1, strip1L, strip, tupV, resV, convT, convN, sliceB, sliceA, sliceO, convB, clearE, appB, lookE, insE, keyOK, rangeE, reduceCtorEq, ↓reduceIte, Nat.reduceAdd, Nat.reduceMul, Nat.reduceSub, Nat.reduceEqDiff, Nat.reduceLeDiff, Nat.reduceBEq, Int.reduceToNat, Nat.reduceLT, Int.reduceBEq, Int.reduceBNe, Int.reduceLT, Int.reduceLE, Int.reduceGT, Int.reduceGE, UInt8.reduceToNat, Int.reduceNeg, Int.reduceAdd, Int.reduceSub, Wt]
      refine endI_c0 (cs := Rd.cs ⟨[], false, true, out⟩ 0 y most _) (cells_cons cell_0 (cells_cons cell_b (cells_cons cell_b (cells_cons cell_i (cells_cons cell_b (cells_cons hcy cells_nil)))))) hgb ?_ ?_
      · repeat first | rw [upd_same] | rw [upd_ne _ _ (by omega)]
        try rfl
      · exact fun x hx hxg => by repeat rw [upd_ne _ _ hxg]
    | false =>
      try simp (disch := omega) only [hbox, c10, c13, h10, h13, ne_far, ne_far', ne_at, ne_at', far_far, far_at, at_far, lt_far, ↓Wd0, Wr0, Wr1, opnds, ofVal, ofValC, PV.cells, PV.one, PV.fit, partE, setL, pickE, intE, strE, eqC, eqCs, kindOK, aggEqE, binE, unaE, convE, fieldE, faddrE, iaddrE, indexE, loE, sliceE, nilE, fillP, buildE, elemsE, bslE, lenE, appE, stripC, strip1, strip1L, strip, tupV, resV, convT, convN, sliceB, sliceA, sliceO, convB, clearE, appB, lookE, insE, keyOK, rangeE, reduceCtorEq, ↓reduceIte, Nat.reduceAdd, Nat.reduceMul, Nat.reduceSub, Nat.reduceEqDiff, Nat.reduceLeDiff, Nat.reduceBEq, Int.reduceToNat, Nat.reduceLT, Int.reduceBEq, Int.reduceBNe, Int.reduceLT, Int.reduceLE, Int.reduceGT, Int.reduceGE, UInt8.reduceToNat, Int.reduceNeg, Int.reduceAdd, Int.reduceSub, Wt]
      refine inD (put_full ⟨b, false, false, out⟩ g z y most _ c (hn.to rfl rfl) rfl hf) (Hv.hs (s := ⟨b, false, false, out⟩) (y := y) (z := z) (most := most) (hbg.toHv.set (s' := ⟨b, false, false, out⟩) hn rfl rfl rfl)) ?_
      try simp (disch := omega) only [hbox, c10, c13, h10, h13, ne_far, ne_far', ne_at, ne_at', far_far, far_at, at_far, lt_far, ↓Wd0, Wr0, Wr1, opnds, ofVal, ofValC, PV.cells, PV.one, PV.fit, partE, setL, pickE, intE, strE, eqC, eqCs, kindOK, aggEqE, binE, unaE, convE, fieldE, faddrE, iaddrE, indexE, loE, sliceE, nilE, fillP, buildE, elemsE, bslE, lenE, appE, stripC, strip1, strip1L, strip, tupV, resV, convT, convN, sliceB, sliceA, sliceO, convB, clearE, appB, lookE, insE, keyOK, rangeE, reduceCtorEq, ↓reduceIte, Nat.reduceAdd, Nat.reduceMul, Nat.reduceSub, Nat.reduceEqDiff, Nat.reduceLeDiff, Nat.reduceBEq, Int.reduceToNat, Nat.reduceLT, Int.reduceBEq, Int.reduceBNe, Int.reduceLT, Int.reduceLE, Int.reduceGT, Int.reduceGE, UInt8.reduceToNat, Int.reduceNeg, Int.reduceAdd, Int.reduceSub, Wt]
      refine endI_c0 (cs := Rd.cs ⟨[], false, true, out⟩ 0 y most _) (cells_cons cell_0 (cells_cons cell_b (cells_cons cell_b (cells_cons cell_i (cells_cons cell_b (cells_cons hcy cells_nil)))))) hgb ?_ ?_
      · repeat first | rw [upd_same] | rw [upd_ne _ _ (by omega)]
        try rfl
      · exact fun x hx hxg => by repeat rw [upd_ne _ _ hxg]
  | true =>
    have h10 : (c == 10) = false := by
      cases h : (c == 10) with
      | false => rfl
      | true => exact absurd (noend he h).1 (by simp)
    try simp (disch := omega) only [hbox, c10, c13, h10, ne_far, ne_far', ne_at, ne_at', far_far, far_at, at_far, lt_far, ↓Wd0, Wr0, Wr1, opnds, ofVal, ofValC, PV.cells, PV.one, PV.fit, partE, setL, pickE, intE, strE, eqC, eqCs, kindOK, aggEqE, binE, unaE, convE, fieldE, faddrE, iaddrE, indexE, loE, sliceE, nilE, fillP, buildE, elemsE, bslE, lenE, appE, stripC, strip1, strip1L, strip, tupV, resV, convT, convN, sliceB, sliceA, sliceO, convB, clearE, appB, lookE, insE, keyOK, rangeE, reduceCtorEq, ↓reduceIte, Nat.reduceAdd, Nat.reduceMul, Nat.reduceSub, Nat.reduceEqDiff, Nat.reduceLeDiff, Nat.reduceBEq, Int.reduceToNat, Nat.reduceLT, Int.reduceBEq, Int.reduceBNe, Int.reduceLT, Int.reduceLE, Int.reduceGT, Int.reduceGE, UInt8.reduceToNat, Int.reduceNeg, Int.reduceAdd, Int.reduceSub, Wt]
    refine inD (put_full ⟨b, true, false, out⟩ g z y most alone 13 (hn.to rfl rfl) rfl hf) (Hv.hs (s := ⟨b, true, false, out⟩) (y := y) (z := z) (most := most) (alone := alone) hbg.toHv) ?_
    cases h13 : (c == 13) with
    | true =>
      try simp (disch := omega) only [hbox, c10, c13, h10, h13, Rd.cs, ne_far, ne_far', ne_at, ne_at', far_far, far_at, at_far, lt_far, ↓Wd0, Wr0, Wr1, opnds, ofVal, ofValC, PV.cells, PV.one, PV.fit, partE, setL, pickE, intE, strE, eqC, eqCs, kindOK, aggEqE, binE, unaE, convE, fieldE, faddrE, iaddrE, indexE, loE, sliceE, nilE, fillP, buildE, elemsE, bslE, lenE, appE, stripC, strip1, strip1L, strip, tupV, resV, convT, convN, sliceB, sliceA, sliceO, convB, clearE, appB, lookE, insE, keyOK, rangeE, reduceCtorEq, ↓reduceIte, Nat.reduceAdd, Nat.reduceMul, Nat.reduceSub, Nat.reduceEqDiff, Nat.reduceLeDiff, Nat.reduceBEq, Int.reduceToNat, Nat.reduceLT, Int.reduceBEq, Int.reduceBNe, Int.reduceLT, Int.reduceLE, Int.reduceGT, Int.reduceGE, UInt8.reduceToNat, Int.reduceNeg, Int.reduceAdd, Int.reduceSub, Wt]
      refine endI_c0 (cs := Rd.cs ⟨[], true, true, out⟩ 0 y most alone) (cells_cons cell_0 (cells_cons cell_b (cells_cons cell_b (cells_cons cell_i (cells_cons cell_b (cells_cons hcy cells_nil)))))) hgb ?_ ?_
      · repeat first | rw [upd_same] | rw [upd_ne _ _ (by omega)]
        try rfl
      · exact fun x hx hxg => by repeat rw [upd_ne _ _ hxg]
    | false =>
      try simp (disch := omega) only [hbox, c10, c13, h10, h13, Rd.cs, ne_far, ne_far', ne_at, ne_at', far_far, far_at, at_far, lt_far, ↓Wd0, Wr0, Wr1, opnds, ofVal, ofValC, PV.cells, PV.one, PV.fit, partE, setL, pickE, intE, strE, eqC, eqCs, kindOK, aggEqE, binE, unaE, convE, fieldE, faddrE, iaddrE, indexE, loE, sliceE, nilE, fillP, buildE, elemsE, bslE, lenE, appE, stripC, strip1, strip1L, strip, tupV, resV, convT, convN, sliceB, sliceA, sliceO, convB, clearE, appB, lookE, insE, keyOK, rangeE, reduceCtorEq, ↓reduceIte, Nat.reduceAdd, Nat.reduceMul, Nat.reduceSub, Nat.reduceEqDiff, Nat.reduceLeDiff, Nat.reduceBEq, Int.reduceToNat, Nat.reduceLT, Int.reduceBEq, Int.reduceBNe, Int.reduceLT, Int.reduceLE, Int.reduceGT, Int.reduceGE, UInt8.reduceToNat, Int.reduceNeg, Int.reduceAdd, Int.reduceSub, Wt]
      refine inD (put_skip ⟨[], false, true, out⟩ g 0 y most alone c n0 rfl) (Hv.hs (s := ⟨[], false, true, out⟩) (y := y) (z := 0) (most := most) ⟨upd_same _ _ _, fun h => by omega, fun h => (upd_ne _ _ (fun e => hn.gy h e.symm)).trans ((upd_ne _ _ (fun e => hn.gy h e.symm)).trans (hy h))⟩) ?_
      try simp (disch := omega) only [hbox, c10, c13, h10, h13, ne_far, ne_far', ne_at, ne_at', far_far, far_at, at_far, lt_far, ↓Wd0, Wr0, Wr1, opnds, ofVal, ofValC, PV.cells, PV.one, PV.fit, partE, setL, pickE, intE, strE, eqC, eqCs, kindOK, aggEqE, binE, unaE, convE, fieldE, faddrE, iaddrE, indexE, loE, sliceE, nilE, fillP, buildE, elemsE, bslE, lenE, appE, stripC, strip1, strip1L, strip, tupV, resV, convT, convN, sliceB, sliceA, sliceO, convB, clearE, appB, lookE, insE, keyOK, rangeE, reduceCtorEq, ↓reduceIte, Nat.reduceAdd, Nat.reduceMul, Nat.reduceSub, Nat.reduceEqDiff, Nat.reduceLeDiff, Nat.reduceBEq, Int.reduceToNat, Nat.reduceLT, Int.reduceBEq, Int.reduceBNe, Int.reduceLT, Int.reduceLE, Int.reduceGT, Int.reduceGE, UInt8.reduceToNat, Int.reduceNeg, Int.reduceAdd, Int.reduceSub, Wt]
      refine endI_c0 (cs := Rd.cs ⟨[], false, true, out⟩ 0 y most _) (cells_cons cell_0 (cells_cons cell_b (cells_cons cell_b (cells_cons cell_i (cells_cons cell_b (cells_cons hcy cells_nil)))))) hgb ?_ ?_
      · repeat first | rw [upd_same] | rw [upd_ne _ _ (by omega)]
        try rfl
      · exact fun x hx hxg => by repeat rw [upd_ne _ _ hxg]
theorem hv_more {H : Nat → Option HObj} {s s' : Rd} {g z y k nb N : Nat} {most : Int} {alone : Bool} {b1 cs : List PV} (h : Beg H s g z y most alone nb N) (hn : Nm s g z y) (hk : N ≤ k) (ho : s'.out = s.out) (hcs : cs = s'.cs k y most alone) : Hv (applyW (applyW H ((g, some (.box b1)) :: (dropL z ++ [(k, some (.tok 5 1 s'.b.length))]))) [(g, some (.box cs))]) s' g k y most alone := by
  subst hcs
  have hgN := h.gN
  have e : ∀ x, x ≠ g → x ≠ k → (2 ≤ z → x ≠ z) → applyW H ((g, some (.box b1)) :: (dropL z ++ [(k, some (.tok 5 1 s'.b.length))])) x = H x := fun x h1 h2 h3 => by
    rcases Nat.lt_or_ge z 2 with hz | hz
    · rw [show dropL z = [] from if_pos hz]
      show upd (upd H g _) k _ x = _
      rw [upd_ne _ _ h2, upd_ne _ _ h1]
    · rw [dropL_2 hz]
      show upd (upd (upd H g _) z none) k _ x = _
      rw [upd_ne _ _ h2, upd_ne _ _ (h3 hz), upd_ne _ _ h1]
  have ek : applyW H ((g, some (.box b1)) :: (dropL z ++ [(k, some (.tok 5 1 s'.b.length))])) k = some (.tok 5 1 s'.b.length) := by
    rcases Nat.lt_or_ge z 2 with hz | hz
    · rw [show dropL z = [] from if_pos hz]
      exact upd_same _ _ _
    · rw [dropL_2 hz]
      exact upd_same _ _ _
  refine ⟨upd_same _ _ _, fun h2 => ?_, fun h2 => ?_⟩
  · show upd _ g _ k = _
    rw [upd_ne _ _ (by omega), ek]
  · have := h.yN h2
    show upd _ g _ y = _
    rw [upd_ne _ _ (fun e => hn.gy h2 e.symm), e y (fun e => hn.gy h2 e.symm) (by omega) (fun h3 e => hn.zy h3 e.symm), h.hy h2, ho]
theorem take_drop (s : Rd) (g z y : Nat) (most : Int) (alone : Bool) (c : UInt8) (hn : Nm s g z y) (he : endC s alone c = false) (hs : s.skip = false) (hcr : s.cr = true) (hm : (s.b.length : Int) < most) (hf : ¬ ((s.b ++ [13]).length : Int) < most) (h13 : (c == 13) = false) (hl : s.b.length ≤ 1000000) : InTo Try.prog 18 [.ptr g 0, .int .u8 c.toNat] (hsL s g z y most alone) (fun _ => .tup []) (fun nb => (g, some (.box (Rd.cs ⟨[], false, true, s.out⟩ 0 y most alone))) :: dropL z) := by
  refine inTo_of mixed Try.func18 rfl Try.ntmps18 Try.results18 (by kernel_rfl) (by kernel_rfl) (by simp) (fun nb x hx => ?_) [] (fun H0 N0 nb hH0 hN0 => ?_)
  · rcases List.mem_cons.1 hx with rfl | hx
    · exact .inl (hs_g ..)
    · rcases hn.z0 with ⟨h0, _⟩ | h2
      · rw [h0, dropL_0] at hx; cases hx
      · have := dropL_none hx; subst this; exact .inl (hs_z h2)
  have hbg := beg_of hH0
  have hbox := hbg.box
  have hcz := cell_z hbg hn
  have hcy := cell_y hbg hn
  have hgb := hbg.gb
  have hgN := hbg.gN
  have hz := hbg.hz
  have hy := hbg.hy
  have f1 : 2 ≤ z → (g = z) = False := fun h => eq_false (hn.gz h)
  have f2 : 2 ≤ z → (z = g) = False := fun h => eq_false (fun e => hn.gz h e.symm)
  simp only [Rd.cs] at hbox hcz hcy
  obtain ⟨b, cr, skip, out⟩ := s
  simp only at hs hcr
  subst hs hcr
  have n1 : Nm ⟨b ++ [13], false, false, out⟩ g (N0 + 170) y := ⟨.inr (by omega), hn.y0, fun _ => by omega, hn.gy, fun _ e => by
    rcases hn.y0 with ⟨h, _⟩ | h
    · omega
    · have := hbg.yN h; omega⟩
  have h10 : (c == 10) = false := by
    cases h : (c == 10) with
    | false => rfl
    | true => exact absurd (noend he h).1 (by simp)
  try simp (disch := omega) only [hbox, c10, c13, h10, ne_far, ne_far', ne_at, ne_at', far_far, far_at, at_far, lt_far, ↓Wd0, Wr0, Wr1, opnds, ofVal, ofValC, PV.cells, PV.one, PV.fit, partE, setL, pickE, intE, strE, eqC, eqCs, kindOK, aggEqE, binE, unaE, convE, fieldE, faddrE, iaddrE, indexE, loE, sliceE, nilE, fillP, buildE, elemsE, bslE, lenE, appE, stripC, strip1, strip1L, strip, tupV, resV, convT, convN, sliceB, sliceA, sliceO, convB, clearE, appB, lookE, insE, keyOK, rangeE, reduceCtorEq, ↓reduceIte, Nat.reduceAdd, Nat.reduceMul, Nat.reduceSub, Nat.reduceEqDiff, Nat.reduceLeDiff, Nat.reduceBEq, Int.reduceToNat, Nat.reduceLT, Int.reduceBEq, Int.reduceBNe, Int.reduceLT, Int.reduceLE, Int.reduceGT, Int.reduceGE, UInt8.reduceToNat, Int.reduceNeg, Int.reduceAdd, Int.reduceSub, Wt]
  refine inD (put_more ⟨b, true, false, out⟩ g z y most alone 13 (hn.to rfl rfl) rfl hm hl) (Hv.hs (s := ⟨b, true, false, out⟩) (y := y) (z := z) (most := most) (alone := alone) hbg.toHv) ?_
  rcases hn.z0 with ⟨rfl, hz0⟩ | h2
  · have hd := dropL_0
    try simp (disch := omega) only [hbox, c10, c13, h10, h13, Rd.cs, hd, ne_far, ne_far', ne_at, ne_at', far_far, far_at, at_far, lt_far, ↓Wd0, Wr0, Wr1, opnds, ofVal, ofValC, PV.cells, PV.one, PV.fit, partE, setL, pickE, intE, strE, eqC, eqCs, kindOK, aggEqE, binE, unaE, convE, fieldE, faddrE, iaddrE, indexE, loE, sliceE, nilE, fillP, buildE, elemsE, bslE, lenE, appE, stripC, strip1, strip1L, strip, tupV, resV, convT, convN, sliceB, sliceA, sliceO, convB, clearE, appB, lookE, insE, keyOK, rangeE, reduceCtorEq, ↓reduceIte, Nat.reduceAdd, Nat.reduceMul, Nat.reduceSub, Nat.reduceEqDiff, Nat.reduceLeDiff, Nat.reduceBEq, Int.reduceToNat, Nat.reduceLT, Int.reduceBEq, Int.reduceBNe, Int.reduceLT, Int.reduceLE, Int.reduceGT, Int.reduceGE, UInt8.reduceToNat, Int.reduceNeg, Int.reduceAdd, Int.reduceSub, Wt]
    refine inD (put_full ⟨b ++ [13], false, false, out⟩ g (N0 + 170) y most _ c n1 rfl hf) (Hv.hs (s := ⟨b ++ [13], false, false, out⟩) (y := y) (z := N0 + 170) (most := most) (hv_more (s' := ⟨b ++ [13], false, false, out⟩) hbg hn (by omega) rfl rfl)) ?_
    try simp (disch := omega) only [hbox, c10, c13, h10, h13, hd, ne_far, ne_far', ne_at, ne_at', far_far, far_at, at_far, lt_far, ↓Wd0, Wr0, Wr1, opnds, ofVal, ofValC, PV.cells, PV.one, PV.fit, partE, setL, pickE, intE, strE, eqC, eqCs, kindOK, aggEqE, binE, unaE, convE, fieldE, faddrE, iaddrE, indexE, loE, sliceE, nilE, fillP, buildE, elemsE, bslE, lenE, appE, stripC, strip1, strip1L, strip, tupV, resV, convT, convN, sliceB, sliceA, sliceO, convB, clearE, appB, lookE, insE, keyOK, rangeE, reduceCtorEq, ↓reduceIte, Nat.reduceAdd, Nat.reduceMul, Nat.reduceSub, Nat.reduceEqDiff, Nat.reduceLeDiff, Nat.reduceBEq, Int.reduceToNat, Nat.reduceLT, Int.reduceBEq, Int.reduceBNe, Int.reduceLT, Int.reduceLE, Int.reduceGT, Int.reduceGE, UInt8.reduceToNat, Int.reduceNeg, Int.reduceAdd, Int.reduceSub, Wt]
    refine endI_cd (z := 0) (cs := Rd.cs ⟨[], false, true, out⟩ 0 y most alone) (cells_cons cell_0 (cells_cons cell_b (cells_cons cell_b (cells_cons cell_i (cells_cons cell_b (cells_cons hcy cells_nil)))))) hgb (upd_same _ _ _) ?_
    exact fun x hx hxg hxz => by repeat rw [upd_ne _ _ (by omega)]
  · have hd := dropL_2 h2
    have hzN := (hbg.zN h2).1
    try simp (disch := omega) only [hbox, c10, c13, h10, h13, Rd.cs, hd, f1 h2, f2 h2, if_false, ne_far, ne_far', ne_at, ne_at', far_far, far_at, at_far, lt_far, ↓Wd0, Wr0, Wr1, opnds, ofVal, ofValC, PV.cells, PV.one, PV.fit, partE, setL, pickE, intE, strE, eqC, eqCs, kindOK, aggEqE, binE, unaE, convE, fieldE, faddrE, iaddrE, indexE, loE, sliceE, nilE, fillP, buildE, elemsE, bslE, lenE, appE, stripC, strip1, strip1L, strip, tupV, resV, convT, convN, sliceB, sliceA, sliceO, convB, clearE, appB, lookE, insE, keyOK, rangeE, reduceCtorEq, ↓reduceIte, Nat.reduceAdd, Nat.reduceMul, Nat.reduceSub, Nat.reduceEqDiff, Nat.reduceLeDiff, Nat.reduceBEq, Int.reduceToNat, Nat.reduceLT, Int.reduceBEq, Int.reduceBNe, Int.reduceLT, Int.reduceLE, Int.reduceGT, Int.reduceGE, UInt8.reduceToNat, Int.reduceNeg, Int.reduceAdd, Int.reduceSub, Wt]
    refine inD (put_full ⟨b ++ [13], false, false, out⟩ g (N0 + 170) y most _ c n1 rfl hf) (Hv.hs (s := ⟨b ++ [13], false, false, out⟩) (y := y) (z := N0 + 170) (most := most) (hv_more (s' := ⟨b ++ [13], false, false, out⟩) hbg hn (by omega) rfl rfl)) ?_
    try simp (disch := omega) only [hbox, c10, c13, h10, h13, hd, ne_far, ne_far', ne_at, ne_at', far_far, far_at, at_far, lt_far, ↓Wd0, Wr0, Wr1, opnds, ofVal, ofValC, PV.cells, PV.one, PV.fit, partE, setL, pickE, intE, strE, eqC, eqCs, kindOK, aggEqE, binE, unaE, convE, fieldE, faddrE, iaddrE, indexE, loE, sliceE, nilE, fillP, buildE, elemsE, bslE, lenE, appE, stripC, strip1, strip1L, strip, tupV, resV, convT, convN, sliceB, sliceA, sliceO, convB, clearE, appB, lookE, insE, keyOK, rangeE, reduceCtorEq, ↓reduceIte, Nat.reduceAdd, Nat.reduceMul, Nat.reduceSub, Nat.reduceEqDiff, Nat.reduceLeDiff, Nat.reduceBEq, Int.reduceToNat, Nat.reduceLT, Int.reduceBEq, Int.reduceBNe, Int.reduceLT, Int.reduceLE, Int.reduceGT, Int.reduceGE, UInt8.reduceToNat, Int.reduceNeg, Int.reduceAdd, Int.reduceSub, Wt]
    refine (?_ : EndI _ _ ((g, _) :: [(z, none)]) _ _ _ _ _)
    rw [← hd]
    refine endI_cd (z := z) (cs := Rd.cs ⟨[], false, true, out⟩ 0 y most alone) (cells_cons cell_0 (cells_cons cell_b (cells_cons cell_b (cells_cons cell_i (cells_cons cell_b (cells_cons hcy cells_nil)))))) hgb (upd_same _ _ _) ?_
    exact fun x hx hxg hxz => by
      have hxz2 := hxz h2
      repeat rw [upd_ne _ _ (by omega)]
end Go.Proofs.Ytemlofepmphgiaa
