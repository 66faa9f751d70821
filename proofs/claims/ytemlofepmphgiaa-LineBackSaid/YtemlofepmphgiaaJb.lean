import Derived.Test.YtemlofepmphgiaaJa
/-! put, and end. -/
set_option linter.unusedSimpArgs false
set_option linter.unusedVariables false
set_option maxHeartbeats 4000000
set_option maxRecDepth 100000
namespace Go.Proofs.Ytemlofepmphgiaa
open Go.RowKit

theorem put_skip (s : Rd) (g z y : Nat) (most : Int) (alone : Bool) (c : UInt8) (hn : Nm s g z y) (hs : s.skip = true) : InTo Try.prog 24 [.ptr g 0, .int .u8 c.toNat] (hsL s g z y most alone) (fun _ => .tup []) (fun _ => []) := by
  refine inTo_of mixed Try.func24 rfl Try.ntmps24 Try.results24 (by kernel_rfl) (by kernel_rfl) (by simp) (fun nb x hx => by cases hx) [] (fun H0 N0 nb hH0 hN0 => ?_)
  have hbg := beg_of hH0
  have hbox := hbg.box
  have hcz := cell_z hbg hn
  have hcy := cell_y hbg hn
  have hgb := hbg.gb
  have hgN := hbg.gN
  simp only [Rd.cs, hs] at hbox hcz hcy
  try simp only [hbox, ↓Wd0, Wr0, Wr1, opnds, ofVal, ofValC, PV.cells, PV.one, PV.fit, partE, setL, pickE, intE, strE, eqC, eqCs, kindOK, aggEqE, binE, unaE, convE, fieldE, faddrE, iaddrE, indexE, loE, sliceE, nilE, fillP, buildE, elemsE, bslE, lenE, appE, stripC, strip1, strip1L, strip, tupV, resV, convT, convN, sliceB, sliceA, sliceO, convB, clearE, appB, lookE, insE, keyOK, rangeE, reduceCtorEq, ↓reduceIte, Nat.reduceAdd, Nat.reduceMul, Nat.reduceSub, Nat.reduceEqDiff, Nat.reduceLeDiff, Nat.reduceBEq, Int.reduceToNat, Nat.reduceLT, Int.reduceBEq, Int.reduceBNe, Int.reduceLT, Int.reduceLE, Int.reduceGT, Int.reduceGE, UInt8.reduceToNat, Int.reduceNeg, Int.reduceAdd, Int.reduceSub, Wt]
  exact endI_none
theorem put_full (s : Rd) (g z y : Nat) (most : Int) (alone : Bool) (c : UInt8) (hn : Nm s g z y) (hs : s.skip = false) (hf : ¬ (s.b.length : Int) < most) : InTo Try.prog 24 [.ptr g 0, .int .u8 c.toNat] (hsL s g z y most alone) (fun _ => .tup []) (fun _ => [(g, some (.box (Rd.cs ⟨[], s.cr, true, s.out⟩ 0 y most alone)))]) := by
  refine inTo_of mixed Try.func24 rfl Try.ntmps24 Try.results24 (by kernel_rfl) (by kernel_rfl) (by simp) (fun nb x hx => by simp only [List.mem_singleton] at hx; subst hx; exact .inl (hs_g ..)) [] (fun H0 N0 nb hH0 hN0 => ?_)
  have hbg := beg_of hH0
  have hbox := hbg.box
  have hcz := cell_z hbg hn
  have hcy := cell_y hbg hn
  have hgb := hbg.gb
  have hgN := hbg.gN
  simp only [Rd.cs, hs] at hbox hcz hcy
  have d1 : decide ((s.b.length : Int) < most) = false := decide_eq_false hf
  try simp only [hbox, List.length_map, d1, ↓Wd0, Wr0, Wr1, opnds, ofVal, ofValC, PV.cells, PV.one, PV.fit, partE, setL, pickE, intE, strE, eqC, eqCs, kindOK, aggEqE, binE, unaE, convE, fieldE, faddrE, iaddrE, indexE, loE, sliceE, nilE, fillP, buildE, elemsE, bslE, lenE, appE, stripC, strip1, strip1L, strip, tupV, resV, convT, convN, sliceB, sliceA, sliceO, convB, clearE, appB, lookE, insE, keyOK, rangeE, reduceCtorEq, ↓reduceIte, Nat.reduceAdd, Nat.reduceMul, Nat.reduceSub, Nat.reduceEqDiff, Nat.reduceLeDiff, Nat.reduceBEq, Int.reduceToNat, Nat.reduceLT, Int.reduceBEq, Int.reduceBNe, Int.reduceLT, Int.reduceLE, Int.reduceGT, Int.reduceGE, UInt8.reduceToNat, Int.reduceNeg, Int.reduceAdd, Int.reduceSub, Wt]
  refine endI_c0 (cs := Rd.cs ⟨[], s.cr, true, s.out⟩ 0 y most alone) (cells_cons cell_0 (cells_cons cell_b (cells_cons cell_b (cells_cons cell_i (cells_cons cell_b (cells_cons hcy cells_nil)))))) hgb ?_ ?_
  · rw [upd_same]; rfl
  · exact fun x hx hxg => by rw [upd_ne _ _ hxg, upd_ne _ _ hxg]
theorem put_more (s : Rd) (g z y : Nat) (most : Int) (alone : Bool) (c : UInt8) (hn : Nm s g z y) (hs : s.skip = false) (hf : (s.b.length : Int) < most) (hl : s.b.length ≤ 1000000) : InTo Try.prog 24 [.ptr g 0, .int .u8 c.toNat] (hsL s g z y most alone) (fun _ => .tup []) (fun nb => (g, some (.box (Rd.cs ⟨s.b ++ [c], s.cr, false, s.out⟩ (nb + 2) y most alone))) :: (dropL z ++ [(nb + 2, some (.tok 5 1 (s.b ++ [c]).length))])) := by
  refine inTo_of mixed Try.func24 rfl Try.ntmps24 Try.results24 (by kernel_rfl) (by kernel_rfl) (by simp) (fun nb x hx => ?_) [] (fun H0 N0 nb hH0 hN0 => ?_)
  · rcases List.mem_cons.1 hx with rfl | hx
    · exact .inl (hs_g ..)
    · rcases List.mem_append.1 hx with hx | hx
      · rcases hn.z0 with ⟨h0, _⟩ | h2
        · rw [h0, dropL_0] at hx; cases hx
        · have := dropL_none hx; subst this; exact .inl (hs_z h2)
      · simp only [List.mem_singleton] at hx; subst hx; exact .inr ⟨by omega, by omega⟩
  have hbg := beg_of hH0
  have hbox := hbg.box
  have hcz := cell_z hbg hn
  have hcy := cell_y hbg hn
  have hgb := hbg.gb
  have hgN := hbg.gN
  simp only [Rd.cs, hs] at hbox hcz hcy
  have d1 : decide ((s.b.length : Int) < most) = true := decide_eq_true hf
  have hz := hbg.hz
  try simp only [hbox, List.length_map, d1, ↓Wd0, Wr0, Wr1, opnds, ofVal, ofValC, PV.cells, PV.one, PV.fit, partE, setL, pickE, intE, strE, eqC, eqCs, kindOK, aggEqE, binE, unaE, convE, fieldE, faddrE, iaddrE, indexE, loE, sliceE, nilE, fillP, buildE, elemsE, bslE, lenE, appE, stripC, strip1, strip1L, strip, tupV, resV, convT, convN, sliceB, sliceA, sliceO, convB, clearE, appB, lookE, insE, keyOK, rangeE, reduceCtorEq, ↓reduceIte, Nat.reduceAdd, Nat.reduceMul, Nat.reduceSub, Nat.reduceEqDiff, Nat.reduceLeDiff, Nat.reduceBEq, Int.reduceToNat, Nat.reduceLT, Int.reduceBEq, Int.reduceBNe, Int.reduceLT, Int.reduceLE, Int.reduceGT, Int.reduceGE, UInt8.reduceToNat, Int.reduceNeg, Int.reduceAdd, Int.reduceSub, Wt]
  have hlen : (s.b ++ [c]).length = s.b.length + 1 := by simp
  have hmap : (s.b ++ [c]).map byteE = s.b.map byteE ++ [[.int .u8 (c.toNat : Int)]] := by simp [byteE]
  have hcs : Rd.cs ⟨s.b ++ [c], s.cr, false, s.out⟩ (nb + 2) y most alone = [] ++ .sl (nb + 2) (s.b.map byteE ++ [[.int .u8 (c.toNat : Int)]]) :: [.bool s.cr, .bool false, .int .i64 most, .bool alone, .sl y (s.out.map GLine.cs)] := by
    simp only [Rd.cs, hmap, List.nil_append]
  rw [hlen, hcs]
  rcases hn.z0 with ⟨rfl, hb0⟩ | h2
  · try simp (disch := omega) only [hbox, List.length_map, d1, ne_far, ne_far', ne_at, ne_at', far_far, far_at, at_far, lt_far, ↓Wd0, Wr0, Wr1, opnds, ofVal, ofValC, PV.cells, PV.one, PV.fit, partE, setL, pickE, intE, strE, eqC, eqCs, kindOK, aggEqE, binE, unaE, convE, fieldE, faddrE, iaddrE, indexE, loE, sliceE, nilE, fillP, buildE, elemsE, bslE, lenE, appE, stripC, strip1, strip1L, strip, tupV, resV, convT, convN, sliceB, sliceA, sliceO, convB, clearE, appB, lookE, insE, keyOK, rangeE, reduceCtorEq, ↓reduceIte, Nat.reduceAdd, Nat.reduceMul, Nat.reduceSub, Nat.reduceEqDiff, Nat.reduceLeDiff, Nat.reduceBEq, Int.reduceToNat, Nat.reduceLT, Int.reduceBEq, Int.reduceBNe, Int.reduceLT, Int.reduceLE, Int.reduceGT, Int.reduceGE, UInt8.reduceToNat, Int.reduceNeg, Int.reduceAdd, Int.reduceSub, Wt]
    refine ⟨by omega, ?_⟩
    refine endI_c1 (a := []) (b := [.bool s.cr, .bool false, .int .i64 most, .bool alone, .sl y (s.out.map GLine.cs)]) (j := 208) cells_nil (cells_cons cell_b (cells_cons cell_b (cells_cons cell_i (cells_cons cell_b (cells_cons hcy cells_nil))))) hN0 hgb ?_ ?_ ?_
    · rw [upd_same]; rfl
    · rw [upd_ne _ _ (by omega), upd_same]
    · exact fun x hx hxg _ => by rw [upd_ne _ _ hxg, upd_ne _ _ (by omega)]
  · have htok := hz h2
    have f0 : (z = 0) = False := eq_false (by omega)
    have f1 : (g = z) = False := eq_false (hn.gz h2)
    have f2 : (z = g) = False := eq_false (fun e => hn.gz h2 e.symm)
    try simp (disch := omega) only [hbox, List.length_map, d1, htok, f0, f1, f2, if_false, ne_far, ne_far', ne_at, ne_at', far_far, far_at, at_far, lt_far, ↓Wd0, Wr0, Wr1, opnds, ofVal, ofValC, PV.cells, PV.one, PV.fit, partE, setL, pickE, intE, strE, eqC, eqCs, kindOK, aggEqE, binE, unaE, convE, fieldE, faddrE, iaddrE, indexE, loE, sliceE, nilE, fillP, buildE, elemsE, bslE, lenE, appE, stripC, strip1, strip1L, strip, tupV, resV, convT, convN, sliceB, sliceA, sliceO, convB, clearE, appB, lookE, insE, keyOK, rangeE, reduceCtorEq, ↓reduceIte, Nat.reduceAdd, Nat.reduceMul, Nat.reduceSub, Nat.reduceEqDiff, Nat.reduceLeDiff, Nat.reduceBEq, Int.reduceToNat, Nat.reduceLT, Int.reduceBEq, Int.reduceBNe, Int.reduceLT, Int.reduceLE, Int.reduceGT, Int.reduceGE, UInt8.reduceToNat, Int.reduceNeg, Int.reduceAdd, Int.reduceSub, Wt]
    refine ⟨by omega, ?_⟩
    refine endI_c1 (a := []) (b := [.bool s.cr, .bool false, .int .i64 most, .bool alone, .sl y (s.out.map GLine.cs)]) (j := 208) cells_nil (cells_cons cell_b (cells_cons cell_b (cells_cons cell_i (cells_cons cell_b (cells_cons hcy cells_nil))))) hN0 hgb ?_ ?_ ?_
    · rw [upd_same]; rfl
    · rw [upd_ne _ _ (by omega), upd_same]
    · exact fun x hx hxg hxz => by rw [upd_ne _ _ hxg, upd_ne _ _ (by omega), upd_ne _ _ (hxz h2)]
def endLn (s : Rd) : GLine := ⟨if s.skip = true then [] else s.b, s.skip⟩
theorem end_in (s : Rd) (g z y : Nat) (most : Int) (alone : Bool) (hn : Nm s g z y) (hl : s.out.length ≤ 1000000) : InTo Try.prog 23 [.ptr g 0] (hsL s g z y most alone) (fun _ => .tup []) (fun nb => (g, some (.box (Rd.cs ⟨[], false, false, s.out ++ [endLn s]⟩ 0 (nb + 2) most alone))) :: (dropL y ++ [(nb + 2, some (.tok 37 2 (s.out ++ [endLn s]).length))])) := by
  refine inTo_of mixed Try.func23 rfl Try.ntmps23 Try.results23 (by kernel_rfl) (by kernel_rfl) (by simp) (fun nb x hx => ?_) [] (fun H0 N0 nb hH0 hN0 => ?_)
  · rcases List.mem_cons.1 hx with rfl | hx
    · exact .inl (hs_g ..)
    · rcases List.mem_append.1 hx with hx | hx
      · rcases hn.y0 with ⟨h0, _⟩ | h2
        · rw [h0, dropL_0] at hx; cases hx
        · have := dropL_none hx; subst this; exact .inl (hs_y h2)
      · simp only [List.mem_singleton] at hx; subst hx; exact .inr ⟨by omega, by omega⟩
  have hlen : (s.out ++ [endLn s]).length = s.out.length + 1 := by simp
  have h2l : ∀ x, x ∈ List.map GLine.cs s.out → x.length = 2 := fun x hx => by
    obtain ⟨a, _, rfl⟩ := List.mem_map.1 hx
    rfl
  obtain ⟨b, cr, skip, out⟩ := s
  have hl2 : out.length ≤ 1000000 := hl
  simp only at hlen h2l
  cases skip with
  | true =>
    have hmap : (out ++ [endLn ⟨b, cr, true, out⟩]).map GLine.cs = out.map GLine.cs ++ [[.str [], .bool true]] := by simp [GLine.cs, endLn]
    have hbg := beg_of hH0
    have hbox := hbg.box
    have hcz := cell_z hbg hn
    have hcy := cell_y hbg hn
    have hgb := hbg.gb
    have hgN := hbg.gN
    simp only [Rd.cs, List.length_map] at hbox hcz hcy
    have hy := hbg.hy
    try simp (disch := omega) only [hbox, List.length_map, ne_far, ne_far', ne_at, ne_at', far_far, far_at, at_far, lt_far, ↓Wd0, Wr0, Wr1, opnds, ofVal, ofValC, PV.cells, PV.one, PV.fit, partE, setL, pickE, intE, strE, eqC, eqCs, kindOK, aggEqE, binE, unaE, convE, fieldE, faddrE, iaddrE, indexE, loE, sliceE, nilE, fillP, buildE, elemsE, bslE, lenE, appE, stripC, strip1, strip1L, strip, tupV, resV, convT, convN, sliceB, sliceA, sliceO, convB, clearE, appB, lookE, insE, keyOK, rangeE, reduceCtorEq, ↓reduceIte, Nat.reduceAdd, Nat.reduceMul, Nat.reduceSub, Nat.reduceEqDiff, Nat.reduceLeDiff, Nat.reduceBEq, Int.reduceToNat, Nat.reduceLT, Int.reduceBEq, Int.reduceBNe, Int.reduceLT, Int.reduceLE, Int.reduceGT, Int.reduceGE, UInt8.reduceToNat, Int.reduceNeg, Int.reduceAdd, Int.reduceSub, Wt]
    rcases hn.y0 with ⟨rfl, hb0⟩ | h2
    · try simp (disch := omega) only [hbox, List.length_map, ne_far, ne_far', ne_at, ne_at', far_far, far_at, at_far, lt_far, ↓Wd0, Wr0, Wr1, opnds, ofVal, ofValC, PV.cells, PV.one, PV.fit, partE, setL, pickE, intE, strE, eqC, eqCs, kindOK, aggEqE, binE, unaE, convE, fieldE, faddrE, iaddrE, indexE, loE, sliceE, nilE, fillP, buildE, elemsE, bslE, lenE, appE, stripC, strip1, strip1L, strip, tupV, resV, convT, convN, sliceB, sliceA, sliceO, convB, clearE, appB, lookE, insE, keyOK, rangeE, reduceCtorEq, ↓reduceIte, Nat.reduceAdd, Nat.reduceMul, Nat.reduceSub, Nat.reduceEqDiff, Nat.reduceLeDiff, Nat.reduceBEq, Int.reduceToNat, Nat.reduceLT, Int.reduceBEq, Int.reduceBNe, Int.reduceLT, Int.reduceLE, Int.reduceGT, Int.reduceGE, UInt8.reduceToNat, Int.reduceNeg, Int.reduceAdd, Int.reduceSub, Wt]
      repeat' (with_reducible apply And.intro)
      all_goals first | exact h2l | omega | exact cmp_r (by first | (simp; done) | (simp; omega)) | exact cmp_l (by kernel_rfl) | skip
      rw [hlen, show Rd.cs ⟨[], false, false, out ++ [endLn ⟨b, cr, true, out⟩]⟩ 0 (nb + 2) most alone = [.sl 0 [], .bool false, .bool false, .int .i64 most, .bool alone] ++ .sl (nb + 2) ((out ++ [endLn ⟨b, cr, true, out⟩]).map GLine.cs) :: [] from rfl, hmap]
      refine endI_c1 (a := [.sl 0 [], .bool false, .bool false, .int .i64 most, .bool alone]) (b := []) (j := 168) (cells_cons cell_0 (cells_cons cell_b (cells_cons cell_b (cells_cons cell_i (cells_cons cell_b cells_nil))))) cells_nil hN0 hgb ?_ ?_ ?_
      · repeat first | rw [upd_same] | rw [upd_ne _ _ (by omega)]
        rfl
      · repeat first | rw [upd_same] | rw [upd_ne _ _ (by omega)]
      · exact fun x hx hxg _ => by repeat rw [upd_ne _ _ (by omega)]
    · have htok := hy h2
      have hyN := (hbg.yN h2).1
      have f0 : (y = 0) = False := eq_false (by omega)
      have f1 : (g = y) = False := eq_false (hn.gy h2)
      have f2 : (y = g) = False := eq_false (fun e => hn.gy h2 e.symm)
      try simp (disch := omega) only [hbox, List.length_map, htok, f0, f1, f2, if_false, ne_far, ne_far', ne_at, ne_at', far_far, far_at, at_far, lt_far, ↓Wd0, Wr0, Wr1, opnds, ofVal, ofValC, PV.cells, PV.one, PV.fit, partE, setL, pickE, intE, strE, eqC, eqCs, kindOK, aggEqE, binE, unaE, convE, fieldE, faddrE, iaddrE, indexE, loE, sliceE, nilE, fillP, buildE, elemsE, bslE, lenE, appE, stripC, strip1, strip1L, strip, tupV, resV, convT, convN, sliceB, sliceA, sliceO, convB, clearE, appB, lookE, insE, keyOK, rangeE, reduceCtorEq, ↓reduceIte, Nat.reduceAdd, Nat.reduceMul, Nat.reduceSub, Nat.reduceEqDiff, Nat.reduceLeDiff, Nat.reduceBEq, Int.reduceToNat, Nat.reduceLT, Int.reduceBEq, Int.reduceBNe, Int.reduceLT, Int.reduceLE, Int.reduceGT, Int.reduceGE, UInt8.reduceToNat, Int.reduceNeg, Int.reduceAdd, Int.reduceSub, Wt]
      repeat' (with_reducible apply And.intro)
      all_goals first | exact h2l | omega | exact cmp_r (by first | (simp; done) | (simp; omega)) | exact cmp_l (by kernel_rfl) | skip
      rw [hlen, show Rd.cs ⟨[], false, false, out ++ [endLn ⟨b, cr, true, out⟩]⟩ 0 (nb + 2) most alone = [.sl 0 [], .bool false, .bool false, .int .i64 most, .bool alone] ++ .sl (nb + 2) ((out ++ [endLn ⟨b, cr, true, out⟩]).map GLine.cs) :: [] from rfl, hmap]
      refine endI_c1 (a := [.sl 0 [], .bool false, .bool false, .int .i64 most, .bool alone]) (b := []) (j := 168) (cells_cons cell_0 (cells_cons cell_b (cells_cons cell_b (cells_cons cell_i (cells_cons cell_b cells_nil))))) cells_nil hN0 hgb ?_ ?_ ?_
      · repeat first | rw [upd_same] | rw [upd_ne _ _ (by omega)]
        rfl
      · repeat first | rw [upd_same] | rw [upd_ne _ _ (by omega)]
      · exact fun x hx hxg hxz => by
          have hxy := hxz h2
          repeat rw [upd_ne _ _ (by omega)]
  | false =>
    have hmap : (out ++ [endLn ⟨b, cr, false, out⟩]).map GLine.cs = out.map GLine.cs ++ [[.str b, .bool false]] := by simp [GLine.cs, endLn]
    have hbg := beg_of hH0
    have hbox := hbg.box
    have hcz := cell_z hbg hn
    have hcy := cell_y hbg hn
    have hgb := hbg.gb
    have hgN := hbg.gN
    simp only [Rd.cs, List.length_map] at hbox hcz hcy
    have hy := hbg.hy
    have hz := hbg.hz
    try simp (disch := omega) only [hbox, List.length_map, ne_far, ne_far', ne_at, ne_at', far_far, far_at, at_far, lt_far, ↓Wd0, Wr0, Wr1, opnds, ofVal, ofValC, PV.cells, PV.one, PV.fit, partE, setL, pickE, intE, strE, eqC, eqCs, kindOK, aggEqE, binE, unaE, convE, fieldE, faddrE, iaddrE, indexE, loE, sliceE, nilE, fillP, buildE, elemsE, bslE, lenE, appE, stripC, strip1, strip1L, strip, tupV, resV, convT, convN, sliceB, sliceA, sliceO, convB, clearE, appB, lookE, insE, keyOK, rangeE, reduceCtorEq, ↓reduceIte, Nat.reduceAdd, Nat.reduceMul, Nat.reduceSub, Nat.reduceEqDiff, Nat.reduceLeDiff, Nat.reduceBEq, Int.reduceToNat, Nat.reduceLT, Int.reduceBEq, Int.reduceBNe, Int.reduceLT, Int.reduceLE, Int.reduceGT, Int.reduceGE, UInt8.reduceToNat, Int.reduceNeg, Int.reduceAdd, Int.reduceSub, Wt]
    rcases hn.z0 with ⟨rfl, hz0⟩ | hz2
    · have e0 : ((0 : Nat) < 2) = True := eq_true (by omega)
      try simp (disch := omega) only [hbox, List.length_map, e0, if_true, ne_far, ne_far', ne_at, ne_at', far_far, far_at, at_far, lt_far, ↓Wd0, Wr0, Wr1, opnds, ofVal, ofValC, PV.cells, PV.one, PV.fit, partE, setL, pickE, intE, strE, eqC, eqCs, kindOK, aggEqE, binE, unaE, convE, fieldE, faddrE, iaddrE, indexE, loE, sliceE, nilE, fillP, buildE, elemsE, bslE, lenE, appE, stripC, strip1, strip1L, strip, tupV, resV, convT, convN, sliceB, sliceA, sliceO, convB, clearE, appB, lookE, insE, keyOK, rangeE, reduceCtorEq, ↓reduceIte, Nat.reduceAdd, Nat.reduceMul, Nat.reduceSub, Nat.reduceEqDiff, Nat.reduceLeDiff, Nat.reduceBEq, Int.reduceToNat, Nat.reduceLT, Int.reduceBEq, Int.reduceBNe, Int.reduceLT, Int.reduceLE, Int.reduceGT, Int.reduceGE, UInt8.reduceToNat, Int.reduceNeg, Int.reduceAdd, Int.reduceSub, Wt]
      rcases hn.y0 with ⟨rfl, hb0⟩ | h2
      · try simp (disch := omega) only [hbox, List.length_map, ne_far, ne_far', ne_at, ne_at', far_far, far_at, at_far, lt_far, ↓Wd0, Wr0, Wr1, opnds, ofVal, ofValC, PV.cells, PV.one, PV.fit, partE, setL, pickE, intE, strE, eqC, eqCs, kindOK, aggEqE, binE, unaE, convE, fieldE, faddrE, iaddrE, indexE, loE, sliceE, nilE, fillP, buildE, elemsE, bslE, lenE, appE, stripC, strip1, strip1L, strip, tupV, resV, convT, convN, sliceB, sliceA, sliceO, convB, clearE, appB, lookE, insE, keyOK, rangeE, reduceCtorEq, ↓reduceIte, Nat.reduceAdd, Nat.reduceMul, Nat.reduceSub, Nat.reduceEqDiff, Nat.reduceLeDiff, Nat.reduceBEq, Int.reduceToNat, Nat.reduceLT, Int.reduceBEq, Int.reduceBNe, Int.reduceLT, Int.reduceLE, Int.reduceGT, Int.reduceGE, UInt8.reduceToNat, Int.reduceNeg, Int.reduceAdd, Int.reduceSub, Wt]
        repeat' (with_reducible apply And.intro)
        all_goals first | exact h2l | omega | exact cmp_r (by first | (simp; done) | (simp; omega)) | exact cmp_l (by kernel_rfl) | skip
        rw [hlen, show Rd.cs ⟨[], false, false, out ++ [endLn ⟨b, cr, false, out⟩]⟩ 0 (nb + 2) most alone = [.sl 0 [], .bool false, .bool false, .int .i64 most, .bool alone] ++ .sl (nb + 2) ((out ++ [endLn ⟨b, cr, false, out⟩]).map GLine.cs) :: [] from rfl, hmap]
        refine endI_c1 (a := [.sl 0 [], .bool false, .bool false, .int .i64 most, .bool alone]) (b := []) (j := 232) (cells_cons cell_0 (cells_cons cell_b (cells_cons cell_b (cells_cons cell_i (cells_cons cell_b cells_nil))))) cells_nil hN0 hgb ?_ ?_ ?_
        · repeat first | rw [upd_same] | rw [upd_ne _ _ (by omega)]
          rfl
        · repeat first | rw [upd_same] | rw [upd_ne _ _ (by omega)]
        · exact fun x hx hxg _ => by repeat rw [upd_ne _ _ (by omega)]
      · have htok := hy h2
        have hyN := (hbg.yN h2).1
        have f0 : (y = 0) = False := eq_false (by omega)
        have f1 : (g = y) = False := eq_false (hn.gy h2)
        have f2 : (y = g) = False := eq_false (fun e => hn.gy h2 e.symm)
        try simp (disch := omega) only [hbox, List.length_map, htok, f0, f1, f2, if_false, ne_far, ne_far', ne_at, ne_at', far_far, far_at, at_far, lt_far, ↓Wd0, Wr0, Wr1, opnds, ofVal, ofValC, PV.cells, PV.one, PV.fit, partE, setL, pickE, intE, strE, eqC, eqCs, kindOK, aggEqE, binE, unaE, convE, fieldE, faddrE, iaddrE, indexE, loE, sliceE, nilE, fillP, buildE, elemsE, bslE, lenE, appE, stripC, strip1, strip1L, strip, tupV, resV, convT, convN, sliceB, sliceA, sliceO, convB, clearE, appB, lookE, insE, keyOK, rangeE, reduceCtorEq, ↓reduceIte, Nat.reduceAdd, Nat.reduceMul, Nat.reduceSub, Nat.reduceEqDiff, Nat.reduceLeDiff, Nat.reduceBEq, Int.reduceToNat, Nat.reduceLT, Int.reduceBEq, Int.reduceBNe, Int.reduceLT, Int.reduceLE, Int.reduceGT, Int.reduceGE, UInt8.reduceToNat, Int.reduceNeg, Int.reduceAdd, Int.reduceSub, Wt]
        repeat' (with_reducible apply And.intro)
        all_goals first | exact h2l | omega | exact cmp_r (by first | (simp; done) | (simp; omega)) | exact cmp_l (by kernel_rfl) | skip
        rw [hlen, show Rd.cs ⟨[], false, false, out ++ [endLn ⟨b, cr, false, out⟩]⟩ 0 (nb + 2) most alone = [.sl 0 [], .bool false, .bool false, .int .i64 most, .bool alone] ++ .sl (nb + 2) ((out ++ [endLn ⟨b, cr, false, out⟩]).map GLine.cs) :: [] from rfl, hmap]
        refine endI_c1 (a := [.sl 0 [], .bool false, .bool false, .int .i64 most, .bool alone]) (b := []) (j := 232) (cells_cons cell_0 (cells_cons cell_b (cells_cons cell_b (cells_cons cell_i (cells_cons cell_b cells_nil))))) cells_nil hN0 hgb ?_ ?_ ?_
        · repeat first | rw [upd_same] | rw [upd_ne _ _ (by omega)]
          rfl
        · repeat first | rw [upd_same] | rw [upd_ne _ _ (by omega)]
        · exact fun x hx hxg hxz => by
            have hxy := hxz h2
            repeat rw [upd_ne _ _ (by omega)]
    · have htz := hz hz2
      have hzN := (hbg.zN hz2).1
      have e0 : (z < 2) = False := eq_false (by omega)
      try simp (disch := omega) only [hbox, List.length_map, htz, e0, if_false, unE_bytes, ne_far, ne_far', ne_at, ne_at', far_far, far_at, at_far, lt_far, ↓Wd0, Wr0, Wr1, opnds, ofVal, ofValC, PV.cells, PV.one, PV.fit, partE, setL, pickE, intE, strE, eqC, eqCs, kindOK, aggEqE, binE, unaE, convE, fieldE, faddrE, iaddrE, indexE, loE, sliceE, nilE, fillP, buildE, elemsE, bslE, lenE, appE, stripC, strip1, strip1L, strip, tupV, resV, convT, convN, sliceB, sliceA, sliceO, convB, clearE, appB, lookE, insE, keyOK, rangeE, reduceCtorEq, ↓reduceIte, Nat.reduceAdd, Nat.reduceMul, Nat.reduceSub, Nat.reduceEqDiff, Nat.reduceLeDiff, Nat.reduceBEq, Int.reduceToNat, Nat.reduceLT, Int.reduceBEq, Int.reduceBNe, Int.reduceLT, Int.reduceLE, Int.reduceGT, Int.reduceGE, UInt8.reduceToNat, Int.reduceNeg, Int.reduceAdd, Int.reduceSub, Wt]
      rcases hn.y0 with ⟨rfl, hb0⟩ | h2
      · try simp (disch := omega) only [hbox, List.length_map, ne_far, ne_far', ne_at, ne_at', far_far, far_at, at_far, lt_far, ↓Wd0, Wr0, Wr1, opnds, ofVal, ofValC, PV.cells, PV.one, PV.fit, partE, setL, pickE, intE, strE, eqC, eqCs, kindOK, aggEqE, binE, unaE, convE, fieldE, faddrE, iaddrE, indexE, loE, sliceE, nilE, fillP, buildE, elemsE, bslE, lenE, appE, stripC, strip1, strip1L, strip, tupV, resV, convT, convN, sliceB, sliceA, sliceO, convB, clearE, appB, lookE, insE, keyOK, rangeE, reduceCtorEq, ↓reduceIte, Nat.reduceAdd, Nat.reduceMul, Nat.reduceSub, Nat.reduceEqDiff, Nat.reduceLeDiff, Nat.reduceBEq, Int.reduceToNat, Nat.reduceLT, Int.reduceBEq, Int.reduceBNe, Int.reduceLT, Int.reduceLE, Int.reduceGT, Int.reduceGE, UInt8.reduceToNat, Int.reduceNeg, Int.reduceAdd, Int.reduceSub, Wt]
        repeat' (with_reducible apply And.intro)
        all_goals first | exact h2l | omega | exact cmp_r (by first | (simp; done) | (simp; omega)) | exact cmp_l (by kernel_rfl) | skip
        rw [hlen, show Rd.cs ⟨[], false, false, out ++ [endLn ⟨b, cr, false, out⟩]⟩ 0 (nb + 2) most alone = [.sl 0 [], .bool false, .bool false, .int .i64 most, .bool alone] ++ .sl (nb + 2) ((out ++ [endLn ⟨b, cr, false, out⟩]).map GLine.cs) :: [] from rfl, hmap]
        refine endI_c1 (a := [.sl 0 [], .bool false, .bool false, .int .i64 most, .bool alone]) (b := []) (j := 232) (cells_cons cell_0 (cells_cons cell_b (cells_cons cell_b (cells_cons cell_i (cells_cons cell_b cells_nil))))) cells_nil hN0 hgb ?_ ?_ ?_
        · repeat first | rw [upd_same] | rw [upd_ne _ _ (by omega)]
          rfl
        · repeat first | rw [upd_same] | rw [upd_ne _ _ (by omega)]
        · exact fun x hx hxg _ => by repeat rw [upd_ne _ _ (by omega)]
      · have htok := hy h2
        have hyN := (hbg.yN h2).1
        have f0 : (y = 0) = False := eq_false (by omega)
        have f1 : (g = y) = False := eq_false (hn.gy h2)
        have f2 : (y = g) = False := eq_false (fun e => hn.gy h2 e.symm)
        try simp (disch := omega) only [hbox, List.length_map, htok, f0, f1, f2, if_false, ne_far, ne_far', ne_at, ne_at', far_far, far_at, at_far, lt_far, ↓Wd0, Wr0, Wr1, opnds, ofVal, ofValC, PV.cells, PV.one, PV.fit, partE, setL, pickE, intE, strE, eqC, eqCs, kindOK, aggEqE, binE, unaE, convE, fieldE, faddrE, iaddrE, indexE, loE, sliceE, nilE, fillP, buildE, elemsE, bslE, lenE, appE, stripC, strip1, strip1L, strip, tupV, resV, convT, convN, sliceB, sliceA, sliceO, convB, clearE, appB, lookE, insE, keyOK, rangeE, reduceCtorEq, ↓reduceIte, Nat.reduceAdd, Nat.reduceMul, Nat.reduceSub, Nat.reduceEqDiff, Nat.reduceLeDiff, Nat.reduceBEq, Int.reduceToNat, Nat.reduceLT, Int.reduceBEq, Int.reduceBNe, Int.reduceLT, Int.reduceLE, Int.reduceGT, Int.reduceGE, UInt8.reduceToNat, Int.reduceNeg, Int.reduceAdd, Int.reduceSub, Wt]
        repeat' (with_reducible apply And.intro)
        all_goals first | exact h2l | omega | exact cmp_r (by first | (simp; done) | (simp; omega)) | exact cmp_l (by kernel_rfl) | skip
        rw [hlen, show Rd.cs ⟨[], false, false, out ++ [endLn ⟨b, cr, false, out⟩]⟩ 0 (nb + 2) most alone = [.sl 0 [], .bool false, .bool false, .int .i64 most, .bool alone] ++ .sl (nb + 2) ((out ++ [endLn ⟨b, cr, false, out⟩]).map GLine.cs) :: [] from rfl, hmap]
        refine endI_c1 (a := [.sl 0 [], .bool false, .bool false, .int .i64 most, .bool alone]) (b := []) (j := 232) (cells_cons cell_0 (cells_cons cell_b (cells_cons cell_b (cells_cons cell_i (cells_cons cell_b cells_nil))))) cells_nil hN0 hgb ?_ ?_ ?_
        · repeat first | rw [upd_same] | rw [upd_ne _ _ (by omega)]
          rfl
        · repeat first | rw [upd_same] | rw [upd_ne _ _ (by omega)]
        · exact fun x hx hxg hxz => by
            have hxy := hxz h2
            repeat rw [upd_ne _ _ (by omega)]
end Go.Proofs.Ytemlofepmphgiaa
