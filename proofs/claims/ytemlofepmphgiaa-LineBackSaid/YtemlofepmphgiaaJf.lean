import Derived.Test.YtemlofepmphgiaaJe
/-! take, where more comes. -/
set_option linter.unusedSimpArgs false
set_option linter.unusedVariables false
set_option maxHeartbeats 4000000
set_option maxRecDepth 100000
namespace Go.Proofs.Ytemlofepmphgiaa
open Go.RowKit

theorem take_one (s : Rd) (g z y : Nat) (most : Int) (alone : Bool) (c : UInt8) (hn : Nm s g z y) (he : endC s alone c = false) (hs : s.skip = false) (hm : (s.b.length : Int) < most) (hk2 : s.cr = (c == 13)) (hl : s.b.length ≤ 1000000) : InTo Try.prog 18 [.ptr g 0, .int .u8 c.toNat] (hsL s g z y most alone) (fun _ => .tup []) (fun nb => (g, some (.box (Rd.cs ⟨s.b ++ [c], (c == 13), false, s.out⟩ (nb + 2) y most alone))) :: (dropL z ++ [(nb + 2, some (.tok 5 1 (s.b ++ [c]).length))])) := by
  refine inTo_of mixed Try.func18 rfl Try.ntmps18 Try.results18 (by kernel_rfl) (by kernel_rfl) (by simp) (fun nb x hx => ?_) [] (fun H0 N0 nb hH0 hN0 => ?_)
  · rcases List.mem_cons.1 hx with rfl | hx
    · exact .inl (hs_g ..)
    · rcases List.mem_append.1 hx with hx | hx
      · rcases hn.z0 with ⟨h0, _⟩ | h2
        · rw [h0, dropL_0] at hx; cases hx
        · have := dropL_none hx; subst this; exact .inl (hs_z h2)
      · simp only [List.mem_singleton] at hx; subst hx; exact .inr ⟨by omega, by omega⟩
  have hbg := beg_of hH0
  have hbox := hbg.box
  have hcz := cell_z hbg hn
  have hcy := cell_y hbg hn
  have hgb := hbg.gb
  have hgN := hbg.gN
  have hz := hbg.hz
  have hy := hbg.hy
  have f1 : 2 ≤ z → (g = z) = False := fun h => eq_false (hn.gz h)
  have f2 : 2 ≤ z → (z = g) = False := fun h => eq_false (fun e => hn.gz h e.symm)
  simp only [Rd.cs] at hbox hcz hcy
  obtain ⟨b, cr, skip, out⟩ := s
  simp only at hs hk2
  subst hs
  cases cr with
  | false =>
    have h13 := hk2.symm
    cases h10 : (c == 10) with
    | true =>
      obtain ⟨_, rfl⟩ := noend he h10
      try simp (disch := omega) only [hbox, c10, c13, h10, h13, ne_far, ne_far', ne_at, ne_at', far_far, far_at, at_far, lt_far, ↓Wd0, Wr0, Wr1, opnds, ofVal, ofValC, PV.cells, PV.one, PV.fit, partE, setL, pickE, intE, strE, eqC, eqCs, kindOK, aggEqE, binE, unaE, convE, fieldE, faddrE, iaddrE, indexE, loE, sliceE, nilE, fillP, buildE, elemsE, bslE, lenE, appE, stripC, strip1, strip1L, strip, tupV, resV, convT, convN, sliceB, sliceA, sliceO, convB, clearE, appB, lookE, insE, keyOK, rangeE, reduceCtorEq, ↓reduceIte, Nat.reduceAdd, Nat.reduceMul, Nat.reduceSub, Nat.reduceEqDiff, Nat.reduceLeDiff, Nat.reduceBEq, Int.reduceToNat, Nat.reduceLT, Int.reduceBEq, Int.reduceBNe, Int.reduceLT, Int.reduceLE, Int.reduceGT, Int.reduceGE, UInt8.reduceToNat, Int.reduceNeg, Int.reduceAdd, Int.reduceSub, Wt]
      refine inD (put_more ⟨b, false, false, out⟩ g z y most _ c (hn.to rfl rfl) rfl hm hl) (Hv.hs (s := ⟨b, false, false, out⟩) (y := y) (z := z) (most := most) (hbg.toHv.set (s' := ⟨b, false, false, out⟩) hn rfl rfl rfl)) ?_
      rcases hn.z0 with ⟨rfl, hz0⟩ | h2
      · have hd := dropL_0
        try simp (disch := omega) only [hbox, c10, c13, h10, h13, hd, Rd.cs, ne_far, ne_far', ne_at, ne_at', far_far, far_at, at_far, lt_far, ↓Wd0, Wr0, Wr1, opnds, ofVal, ofValC, PV.cells, PV.one, PV.fit, partE, setL, pickE, intE, strE, eqC, eqCs, kindOK, aggEqE, binE, unaE, convE, fieldE, faddrE, iaddrE, indexE, loE, sliceE, nilE, fillP, buildE, elemsE, bslE, lenE, appE, stripC, strip1, strip1L, strip, tupV, resV, convT, convN, sliceB, sliceA, sliceO, convB, clearE, appB, lookE, insE, keyOK, rangeE, reduceCtorEq, ↓reduceIte, Nat.reduceAdd, Nat.reduceMul, Nat.reduceSub, Nat.reduceEqDiff, Nat.reduceLeDiff, Nat.reduceBEq, Int.reduceToNat, Nat.reduceLT, Int.reduceBEq, Int.reduceBNe, Int.reduceLT, Int.reduceLE, Int.reduceGT, Int.reduceGE, UInt8.reduceToNat, Int.reduceNeg, Int.reduceAdd, Int.reduceSub, Wt]
        skip
        refine endI_c1 (z := 0) (a := []) (b := [.bool false, .bool false, .int .i64 most, .bool _, .sl y (out.map GLine.cs)]) (xs := (b ++ [c]).map byteE) (j := 282) cells_nil (cells_cons cell_b (cells_cons cell_b (cells_cons cell_i (cells_cons cell_b (cells_cons hcy cells_nil))))) hN0 hgb ?_ ?_ ?_
        · repeat first | rw [upd_same] | rw [upd_ne _ _ (by omega)]
          try rfl
        · repeat first | rw [upd_same] | rw [upd_ne _ _ (by omega)]
        · exact fun x hx hxg hxz => by repeat rw [upd_ne _ _ (by omega)]
      · have hd := dropL_2 h2
        have hzN := (hbg.zN h2).1
        have hgz := hn.gz h2
        try simp (disch := omega) only [hbox, c10, c13, h10, h13, hd, Rd.cs, f1 h2, f2 h2, if_false, ne_far, ne_far', ne_at, ne_at', far_far, far_at, at_far, lt_far, ↓Wd0, Wr0, Wr1, opnds, ofVal, ofValC, PV.cells, PV.one, PV.fit, partE, setL, pickE, intE, strE, eqC, eqCs, kindOK, aggEqE, binE, unaE, convE, fieldE, faddrE, iaddrE, indexE, loE, sliceE, nilE, fillP, buildE, elemsE, bslE, lenE, appE, stripC, strip1, strip1L, strip, tupV, resV, convT, convN, sliceB, sliceA, sliceO, convB, clearE, appB, lookE, insE, keyOK, rangeE, reduceCtorEq, ↓reduceIte, Nat.reduceAdd, Nat.reduceMul, Nat.reduceSub, Nat.reduceEqDiff, Nat.reduceLeDiff, Nat.reduceBEq, Int.reduceToNat, Nat.reduceLT, Int.reduceBEq, Int.reduceBNe, Int.reduceLT, Int.reduceLE, Int.reduceGT, Int.reduceGE, UInt8.reduceToNat, Int.reduceNeg, Int.reduceAdd, Int.reduceSub, Wt]
        skip
        refine (?_ : EndI _ _ ((g, _) :: ([(z, none)] ++ [(nb + 2, _)])) _ _ _ _ _)
        rw [← hd]
        refine endI_c1 (z := z) (a := []) (b := [.bool false, .bool false, .int .i64 most, .bool _, .sl y (out.map GLine.cs)]) (xs := (b ++ [c]).map byteE) (j := 282) cells_nil (cells_cons cell_b (cells_cons cell_b (cells_cons cell_i (cells_cons cell_b (cells_cons hcy cells_nil))))) hN0 hgb ?_ ?_ ?_
        · repeat first | rw [upd_same] | rw [upd_ne _ _ (by omega)]
          try rfl
        · repeat first | rw [upd_same] | rw [upd_ne _ _ (by omega)]
        · exact fun x hx hxg hxz => by
            have hxz2 := hxz h2
            repeat rw [upd_ne _ _ (by omega)]
    | false =>
      try simp (disch := omega) only [hbox, c10, c13, h10, h13, ne_far, ne_far', ne_at, ne_at', far_far, far_at, at_far, lt_far, ↓Wd0, Wr0, Wr1, opnds, ofVal, ofValC, PV.cells, PV.one, PV.fit, partE, setL, pickE, intE, strE, eqC, eqCs, kindOK, aggEqE, binE, unaE, convE, fieldE, faddrE, iaddrE, indexE, loE, sliceE, nilE, fillP, buildE, elemsE, bslE, lenE, appE, stripC, strip1, strip1L, strip, tupV, resV, convT, convN, sliceB, sliceA, sliceO, convB, clearE, appB, lookE, insE, keyOK, rangeE, reduceCtorEq, ↓reduceIte, Nat.reduceAdd, Nat.reduceMul, Nat.reduceSub, Nat.reduceEqDiff, Nat.reduceLeDiff, Nat.reduceBEq, Int.reduceToNat, Nat.reduceLT, Int.reduceBEq, Int.reduceBNe, Int.reduceLT, Int.reduceLE, Int.reduceGT, Int.reduceGE, UInt8.reduceToNat, Int.reduceNeg, Int.reduceAdd, Int.reduceSub, Wt]
      refine inD (put_more ⟨b, false, false, out⟩ g z y most _ c (hn.to rfl rfl) rfl hm hl) (Hv.hs (s := ⟨b, false, false, out⟩) (y := y) (z := z) (most := most) (hbg.toHv.set (s' := ⟨b, false, false, out⟩) hn rfl rfl rfl)) ?_
      rcases hn.z0 with ⟨rfl, hz0⟩ | h2
      · have hd := dropL_0
        try simp (disch := omega) only [hbox, c10, c13, h10, h13, hd, Rd.cs, ne_far, ne_far', ne_at, ne_at', far_far, far_at, at_far, lt_far, ↓Wd0, Wr0, Wr1, opnds, ofVal, ofValC, PV.cells, PV.one, PV.fit, partE, setL, pickE, intE, strE, eqC, eqCs, kindOK, aggEqE, binE, unaE, convE, fieldE, faddrE, iaddrE, indexE, loE, sliceE, nilE, fillP, buildE, elemsE, bslE, lenE, appE, stripC, strip1, strip1L, strip, tupV, resV, convT, convN, sliceB, sliceA, sliceO, convB, clearE, appB, lookE, insE, keyOK, rangeE, reduceCtorEq, ↓reduceIte, Nat.reduceAdd, Nat.reduceMul, Nat.reduceSub, Nat.reduceEqDiff, Nat.reduceLeDiff, Nat.reduceBEq, Int.reduceToNat, Nat.reduceLT, Int.reduceBEq, Int.reduceBNe, Int.reduceLT, Int.reduceLE, Int.reduceGT, Int.reduceGE, UInt8.reduceToNat, Int.reduceNeg, Int.reduceAdd, Int.reduceSub, Wt]
        skip
        refine endI_c1 (z := 0) (a := []) (b := [.bool false, .bool false, .int .i64 most, .bool _, .sl y (out.map GLine.cs)]) (xs := (b ++ [c]).map byteE) (j := 282) cells_nil (cells_cons cell_b (cells_cons cell_b (cells_cons cell_i (cells_cons cell_b (cells_cons hcy cells_nil))))) hN0 hgb ?_ ?_ ?_
        · repeat first | rw [upd_same] | rw [upd_ne _ _ (by omega)]
          try rfl
        · repeat first | rw [upd_same] | rw [upd_ne _ _ (by omega)]
        · exact fun x hx hxg hxz => by repeat rw [upd_ne _ _ (by omega)]
      · have hd := dropL_2 h2
        have hzN := (hbg.zN h2).1
        have hgz := hn.gz h2
        try simp (disch := omega) only [hbox, c10, c13, h10, h13, hd, Rd.cs, f1 h2, f2 h2, if_false, ne_far, ne_far', ne_at, ne_at', far_far, far_at, at_far, lt_far, ↓Wd0, Wr0, Wr1, opnds, ofVal, ofValC, PV.cells, PV.one, PV.fit, partE, setL, pickE, intE, strE, eqC, eqCs, kindOK, aggEqE, binE, unaE, convE, fieldE, faddrE, iaddrE, indexE, loE, sliceE, nilE, fillP, buildE, elemsE, bslE, lenE, appE, stripC, strip1, strip1L, strip, tupV, resV, convT, convN, sliceB, sliceA, sliceO, convB, clearE, appB, lookE, insE, keyOK, rangeE, reduceCtorEq, ↓reduceIte, Nat.reduceAdd, Nat.reduceMul, Nat.reduceSub, Nat.reduceEqDiff, Nat.reduceLeDiff, Nat.reduceBEq, Int.reduceToNat, Nat.reduceLT, Int.reduceBEq, Int.reduceBNe, Int.reduceLT, Int.reduceLE, Int.reduceGT, Int.reduceGE, UInt8.reduceToNat, Int.reduceNeg, Int.reduceAdd, Int.reduceSub, Wt]
        skip
        refine (?_ : EndI _ _ ((g, _) :: ([(z, none)] ++ [(nb + 2, _)])) _ _ _ _ _)
        rw [← hd]
        refine endI_c1 (z := z) (a := []) (b := [.bool false, .bool false, .int .i64 most, .bool _, .sl y (out.map GLine.cs)]) (xs := (b ++ [c]).map byteE) (j := 282) cells_nil (cells_cons cell_b (cells_cons cell_b (cells_cons cell_i (cells_cons cell_b (cells_cons hcy cells_nil))))) hN0 hgb ?_ ?_ ?_
        · repeat first | rw [upd_same] | rw [upd_ne _ _ (by omega)]
          try rfl
        · repeat first | rw [upd_same] | rw [upd_ne _ _ (by omega)]
        · exact fun x hx hxg hxz => by
            have hxz2 := hxz h2
            repeat rw [upd_ne _ _ (by omega)]
  | true =>
    have h13 := hk2.symm
    have hc : c = 13 := beq_iff_eq.1 h13
    rw [hc, show ((13 : UInt8) == 13) = true from rfl]
    have h10 : (c == 10) = false := by
      cases h : (c == 10) with
      | false => rfl
      | true => exact absurd (noend he h).1 (by simp)
    try simp (disch := omega) only [hbox, c10, c13, h10, ne_far, ne_far', ne_at, ne_at', far_far, far_at, at_far, lt_far, ↓Wd0, Wr0, Wr1, opnds, ofVal, ofValC, PV.cells, PV.one, PV.fit, partE, setL, pickE, intE, strE, eqC, eqCs, kindOK, aggEqE, binE, unaE, convE, fieldE, faddrE, iaddrE, indexE, loE, sliceE, nilE, fillP, buildE, elemsE, bslE, lenE, appE, stripC, strip1, strip1L, strip, tupV, resV, convT, convN, sliceB, sliceA, sliceO, convB, clearE, appB, lookE, insE, keyOK, rangeE, reduceCtorEq, ↓reduceIte, Nat.reduceAdd, Nat.reduceMul, Nat.reduceSub, Nat.reduceEqDiff, Nat.reduceLeDiff, Nat.reduceBEq, Int.reduceToNat, Nat.reduceLT, Int.reduceBEq, Int.reduceBNe, Int.reduceLT, Int.reduceLE, Int.reduceGT, Int.reduceGE, UInt8.reduceToNat, Int.reduceNeg, Int.reduceAdd, Int.reduceSub, Wt]
    refine inD (put_more ⟨b, true, false, out⟩ g z y most alone 13 (hn.to rfl rfl) rfl hm hl) (Hv.hs (s := ⟨b, true, false, out⟩) (y := y) (z := z) (most := most) (alone := alone) hbg.toHv) ?_
    rcases hn.z0 with ⟨rfl, hz0⟩ | h2
    · have hd := dropL_0
      try simp (disch := omega) only [hbox, c10, c13, h10, h13, hd, Rd.cs, ne_far, ne_far', ne_at, ne_at', far_far, far_at, at_far, lt_far, ↓Wd0, Wr0, Wr1, opnds, ofVal, ofValC, PV.cells, PV.one, PV.fit, partE, setL, pickE, intE, strE, eqC, eqCs, kindOK, aggEqE, binE, unaE, convE, fieldE, faddrE, iaddrE, indexE, loE, sliceE, nilE, fillP, buildE, elemsE, bslE, lenE, appE, stripC, strip1, strip1L, strip, tupV, resV, convT, convN, sliceB, sliceA, sliceO, convB, clearE, appB, lookE, insE, keyOK, rangeE, reduceCtorEq, ↓reduceIte, Nat.reduceAdd, Nat.reduceMul, Nat.reduceSub, Nat.reduceEqDiff, Nat.reduceLeDiff, Nat.reduceBEq, Int.reduceToNat, Nat.reduceLT, Int.reduceBEq, Int.reduceBNe, Int.reduceLT, Int.reduceLE, Int.reduceGT, Int.reduceGE, UInt8.reduceToNat, Int.reduceNeg, Int.reduceAdd, Int.reduceSub, Wt]
      skip
      refine endI_c1 (z := 0) (a := []) (b := [.bool true, .bool false, .int .i64 most, .bool _, .sl y (out.map GLine.cs)]) (xs := (b ++ [13]).map byteE) (j := 170) cells_nil (cells_cons cell_b (cells_cons cell_b (cells_cons cell_i (cells_cons cell_b (cells_cons hcy cells_nil))))) hN0 hgb ?_ ?_ ?_
      · repeat first | rw [upd_same] | rw [upd_ne _ _ (by omega)]
        try rfl
      · repeat first | rw [upd_same] | rw [upd_ne _ _ (by omega)]
      · exact fun x hx hxg hxz => by repeat rw [upd_ne _ _ (by omega)]
    · have hd := dropL_2 h2
      have hzN := (hbg.zN h2).1
      have hgz := hn.gz h2
      try simp (disch := omega) only [hbox, c10, c13, h10, h13, hd, Rd.cs, f1 h2, f2 h2, if_false, ne_far, ne_far', ne_at, ne_at', far_far, far_at, at_far, lt_far, ↓Wd0, Wr0, Wr1, opnds, ofVal, ofValC, PV.cells, PV.one, PV.fit, partE, setL, pickE, intE, strE, eqC, eqCs, kindOK, aggEqE, binE, unaE, convE, fieldE, faddrE, iaddrE, indexE, loE, sliceE, nilE, fillP, buildE, elemsE, bslE, lenE, appE, stripC, strip1, strip1L, strip, tupV, resV, convT, convN, sliceB, sliceA, sliceO, convB, clearE, appB, lookE, insE, keyOK, rangeE, reduceCtorEq, ↓reduceIte, Nat.reduceAdd, Nat.reduceMul, Nat.reduceSub, Nat.reduceEqDiff, Nat.reduceLeDiff, Nat.reduceBEq, Int.reduceToNat, Nat.reduceLT, Int.reduceBEq, Int.reduceBNe, Int.reduceLT, Int.reduceLE, Int.reduceGT, Int.reduceGE, UInt8.reduceToNat, Int.reduceNeg, Int.reduceAdd, Int.reduceSub, Wt]
      skip
      refine (?_ : EndI _ _ ((g, _) :: ([(z, none)] ++ [(nb + 2, _)])) _ _ _ _ _)
      rw [← hd]
      refine endI_c1 (z := z) (a := []) (b := [.bool true, .bool false, .int .i64 most, .bool _, .sl y (out.map GLine.cs)]) (xs := (b ++ [13]).map byteE) (j := 170) cells_nil (cells_cons cell_b (cells_cons cell_b (cells_cons cell_i (cells_cons cell_b (cells_cons hcy cells_nil))))) hN0 hgb ?_ ?_ ?_
      · repeat first | rw [upd_same] | rw [upd_ne _ _ (by omega)]
        try rfl
      · repeat first | rw [upd_same] | rw [upd_ne _ _ (by omega)]
      · exact fun x hx hxg hxz => by
          have hxz2 := hxz h2
          repeat rw [upd_ne _ _ (by omega)]
theorem take_two (s : Rd) (g z y : Nat) (most : Int) (alone : Bool) (c : UInt8) (hn : Nm s g z y) (he : endC s alone c = false) (hs : s.skip = false) (hcr : s.cr = true) (hm : (s.b.length : Int) < most) (hm2 : ((s.b ++ [13]).length : Int) < most) (h13 : (c == 13) = false) (hl : s.b.length ≤ 900000) : InTo Try.prog 18 [.ptr g 0, .int .u8 c.toNat] (hsL s g z y most alone) (fun _ => .tup []) (fun nb => (g, some (.box (Rd.cs ⟨s.b ++ [13] ++ [c], false, false, s.out⟩ (nb + 2) y most alone))) :: (dropL z ++ [(nb + 2, some (.tok 5 1 (s.b ++ [13] ++ [c]).length))])) := by
  refine inTo_of mixed Try.func18 rfl Try.ntmps18 Try.results18 (by kernel_rfl) (by kernel_rfl) (by simp) (fun nb x hx => ?_) [] (fun H0 N0 nb hH0 hN0 => ?_)
  · rcases List.mem_cons.1 hx with rfl | hx
    · exact .inl (hs_g ..)
    · rcases List.mem_append.1 hx with hx | hx
      · rcases hn.z0 with ⟨h0, _⟩ | h2
        · rw [h0, dropL_0] at hx; cases hx
        · have := dropL_none hx; subst this; exact .inl (hs_z h2)
      · simp only [List.mem_singleton] at hx; subst hx; exact .inr ⟨by omega, by omega⟩
  have hbg := beg_of hH0
  have hbox := hbg.box
  have hcz := cell_z hbg hn
  have hcy := cell_y hbg hn
  have hgb := hbg.gb
  have hgN := hbg.gN
  have hz := hbg.hz
  have hy := hbg.hy
  have f1 : 2 ≤ z → (g = z) = False := fun h => eq_false (hn.gz h)
  have f2 : 2 ≤ z → (z = g) = False := fun h => eq_false (fun e => hn.gz h e.symm)
  simp only [Rd.cs] at hbox hcz hcy
  obtain ⟨b, cr, skip, out⟩ := s
  simp only at hs hcr
  subst hs hcr
  have n1 : Nm ⟨b ++ [13], false, false, out⟩ g (N0 + 170) y := ⟨.inr (by omega), hn.y0, fun _ => by omega, hn.gy, fun _ e => by
    rcases hn.y0 with ⟨h, _⟩ | h
    · omega
    · have := hbg.yN h; omega⟩
  have hl0 : b.length ≤ 900000 := hl
  have hl2 : (b ++ [13]).length ≤ 1000000 := by simp; omega
  have hl : b.length ≤ 1000000 := by omega
  have h10 : (c == 10) = false := by
    cases h : (c == 10) with
    | false => rfl
    | true => exact absurd (noend he h).1 (by simp)
  try simp (disch := omega) only [hbox, c10, c13, h10, ne_far, ne_far', ne_at, ne_at', far_far, far_at, at_far, lt_far, ↓Wd0, Wr0, Wr1, opnds, ofVal, ofValC, PV.cells, PV.one, PV.fit, partE, setL, pickE, intE, strE, eqC, eqCs, kindOK, aggEqE, binE, unaE, convE, fieldE, faddrE, iaddrE, indexE, loE, sliceE, nilE, fillP, buildE, elemsE, bslE, lenE, appE, stripC, strip1, strip1L, strip, tupV, resV, convT, convN, sliceB, sliceA, sliceO, convB, clearE, appB, lookE, insE, keyOK, rangeE, reduceCtorEq, ↓reduceIte, Nat.reduceAdd, Nat.reduceMul, Nat.reduceSub, Nat.reduceEqDiff, Nat.reduceLeDiff, Nat.reduceBEq, Int.reduceToNat, Nat.reduceLT, Int.reduceBEq, Int.reduceBNe, Int.reduceLT, Int.reduceLE, Int.reduceGT, Int.reduceGE, UInt8.reduceToNat, Int.reduceNeg, Int.reduceAdd, Int.reduceSub, Wt]
  refine inD (put_more ⟨b, true, false, out⟩ g z y most alone 13 (hn.to rfl rfl) rfl hm hl) (Hv.hs (s := ⟨b, true, false, out⟩) (y := y) (z := z) (most := most) (alone := alone) hbg.toHv) ?_
  rcases hn.z0 with ⟨rfl, hz0⟩ | h2
  · have hd := dropL_0
    try simp (disch := omega) only [hbox, c10, c13, h10, h13, hd, Rd.cs, ne_far, ne_far', ne_at, ne_at', far_far, far_at, at_far, lt_far, ↓Wd0, Wr0, Wr1, opnds, ofVal, ofValC, PV.cells, PV.one, PV.fit, partE, setL, pickE, intE, strE, eqC, eqCs, kindOK, aggEqE, binE, unaE, convE, fieldE, faddrE, iaddrE, indexE, loE, sliceE, nilE, fillP, buildE, elemsE, bslE, lenE, appE, stripC, strip1, strip1L, strip, tupV, resV, convT, convN, sliceB, sliceA, sliceO, convB, clearE, appB, lookE, insE, keyOK, rangeE, reduceCtorEq, ↓reduceIte, Nat.reduceAdd, Nat.reduceMul, Nat.reduceSub, Nat.reduceEqDiff, Nat.reduceLeDiff, Nat.reduceBEq, Int.reduceToNat, Nat.reduceLT, Int.reduceBEq, Int.reduceBNe, Int.reduceLT, Int.reduceLE, Int.reduceGT, Int.reduceGE, UInt8.reduceToNat, Int.reduceNeg, Int.reduceAdd, Int.reduceSub, Wt]
    refine inD (put_more ⟨b ++ [13], false, false, out⟩ g (N0 + 170) y most _ c n1 rfl hm2 hl2) (Hv.hs (s := ⟨b ++ [13], false, false, out⟩) (y := y) (z := N0 + 170) (most := most) (hv_more (s' := ⟨b ++ [13], false, false, out⟩) hbg hn (by omega) rfl rfl)) ?_
    have hd' : dropL (N0 + 170) = [(N0 + 170, none)] := dropL_2 (by omega)
    try simp (disch := omega) only [hbox, c10, c13, h10, h13, hd, hd', ne_far, ne_far', ne_at, ne_at', far_far, far_at, at_far, lt_far, ↓Wd0, Wr0, Wr1, opnds, ofVal, ofValC, PV.cells, PV.one, PV.fit, partE, setL, pickE, intE, strE, eqC, eqCs, kindOK, aggEqE, binE, unaE, convE, fieldE, faddrE, iaddrE, indexE, loE, sliceE, nilE, fillP, buildE, elemsE, bslE, lenE, appE, stripC, strip1, strip1L, strip, tupV, resV, convT, convN, sliceB, sliceA, sliceO, convB, clearE, appB, lookE, insE, keyOK, rangeE, reduceCtorEq, ↓reduceIte, Nat.reduceAdd, Nat.reduceMul, Nat.reduceSub, Nat.reduceEqDiff, Nat.reduceLeDiff, Nat.reduceBEq, Int.reduceToNat, Nat.reduceLT, Int.reduceBEq, Int.reduceBNe, Int.reduceLT, Int.reduceLE, Int.reduceGT, Int.reduceGE, UInt8.reduceToNat, Int.reduceNeg, Int.reduceAdd, Int.reduceSub, Wt]
    refine endI_c1 (z := 0) (a := []) (b := [.bool false, .bool false, .int .i64 most, .bool _, .sl y (out.map GLine.cs)]) (xs := (b ++ [13] ++ [c]).map byteE) (j := 298) cells_nil (cells_cons cell_b (cells_cons cell_b (cells_cons cell_i (cells_cons cell_b (cells_cons hcy cells_nil))))) hN0 hgb ?_ ?_ ?_
    · repeat first | rw [upd_same] | rw [upd_ne _ _ (by omega)]
      try rfl
    · repeat first | rw [upd_same] | rw [upd_ne _ _ (by omega)]
    · exact fun x hx hxg hxz => by repeat rw [upd_ne _ _ (by omega)]
  · have hd := dropL_2 h2
    have hzN := (hbg.zN h2).1
    have hgz := hn.gz h2
    try simp (disch := omega) only [hbox, c10, c13, h10, h13, hd, Rd.cs, f1 h2, f2 h2, if_false, ne_far, ne_far', ne_at, ne_at', far_far, far_at, at_far, lt_far, ↓Wd0, Wr0, Wr1, opnds, ofVal, ofValC, PV.cells, PV.one, PV.fit, partE, setL, pickE, intE, strE, eqC, eqCs, kindOK, aggEqE, binE, unaE, convE, fieldE, faddrE, iaddrE, indexE, loE, sliceE, nilE, fillP, buildE, elemsE, bslE, lenE, appE, stripC, strip1, strip1L, strip, tupV, resV, convT, convN, sliceB, sliceA, sliceO, convB, clearE, appB, lookE, insE, keyOK, rangeE, reduceCtorEq, ↓reduceIte, Nat.reduceAdd, Nat.reduceMul, Nat.reduceSub, Nat.reduceEqDiff, Nat.reduceLeDiff, Nat.reduceBEq, Int.reduceToNat, Nat.reduceLT, Int.reduceBEq, Int.reduceBNe, Int.reduceLT, Int.reduceLE, Int.reduceGT, Int.reduceGE, UInt8.reduceToNat, Int.reduceNeg, Int.reduceAdd, Int.reduceSub, Wt]
    refine inD (put_more ⟨b ++ [13], false, false, out⟩ g (N0 + 170) y most _ c n1 rfl hm2 hl2) (Hv.hs (s := ⟨b ++ [13], false, false, out⟩) (y := y) (z := N0 + 170) (most := most) (hv_more (s' := ⟨b ++ [13], false, false, out⟩) hbg hn (by omega) rfl rfl)) ?_
    have hd' : dropL (N0 + 170) = [(N0 + 170, none)] := dropL_2 (by omega)
    try simp (disch := omega) only [hbox, c10, c13, h10, h13, hd, hd', ne_far, ne_far', ne_at, ne_at', far_far, far_at, at_far, lt_far, ↓Wd0, Wr0, Wr1, opnds, ofVal, ofValC, PV.cells, PV.one, PV.fit, partE, setL, pickE, intE, strE, eqC, eqCs, kindOK, aggEqE, binE, unaE, convE, fieldE, faddrE, iaddrE, indexE, loE, sliceE, nilE, fillP, buildE, elemsE, bslE, lenE, appE, stripC, strip1, strip1L, strip, tupV, resV, convT, convN, sliceB, sliceA, sliceO, convB, clearE, appB, lookE, insE, keyOK, rangeE, reduceCtorEq, ↓reduceIte, Nat.reduceAdd, Nat.reduceMul, Nat.reduceSub, Nat.reduceEqDiff, Nat.reduceLeDiff, Nat.reduceBEq, Int.reduceToNat, Nat.reduceLT, Int.reduceBEq, Int.reduceBNe, Int.reduceLT, Int.reduceLE, Int.reduceGT, Int.reduceGE, UInt8.reduceToNat, Int.reduceNeg, Int.reduceAdd, Int.reduceSub, Wt]
    refine (?_ : EndI _ _ ((g, _) :: ([(z, none)] ++ [(nb + 2, _)])) _ _ _ _ _)
    rw [← hd]
    refine endI_c1 (z := z) (a := []) (b := [.bool false, .bool false, .int .i64 most, .bool _, .sl y (out.map GLine.cs)]) (xs := (b ++ [13] ++ [c]).map byteE) (j := 298) cells_nil (cells_cons cell_b (cells_cons cell_b (cells_cons cell_i (cells_cons cell_b (cells_cons hcy cells_nil))))) hN0 hgb ?_ ?_ ?_
    · repeat first | rw [upd_same] | rw [upd_ne _ _ (by omega)]
      try rfl
    · repeat first | rw [upd_same] | rw [upd_ne _ _ (by omega)]
    · exact fun x hx hxg hxz => by
        have hxz2 := hxz h2
        repeat rw [upd_ne _ _ (by omega)]
end Go.Proofs.Ytemlofepmphgiaa
